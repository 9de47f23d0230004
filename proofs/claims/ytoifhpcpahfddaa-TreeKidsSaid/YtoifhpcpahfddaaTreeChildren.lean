/- TreeKids: each node but the first one is one child of one node; a child is behind it, and later; for every tree and place. -/
import Derived.Test.YtoifhpcpahfddaaTreeAwake
namespace Go.Proofs.Ytoifhpcpahfddaa
open Go.RowKit Go.WideShapes Go.ChangeShapes
set_option linter.unusedVariables false
set_option linter.unusedSimpArgs false






namespace Tree
theorem mem_kidsN {T : List Node} (hm : mayV T = true) {k c : Nat} : c ∈ kidsN T (k : Int) ↔ c < T.length ∧ c ≠ 0 ∧ up T c = k := by
  unfold kidsN
  rw [List.mem_filter, List.mem_range]
  simp only [decide_eq_true_eq]
  constructor
  · rintro ⟨h1, h2⟩
    have h0 : c ≠ 0 := fun e => by subst e; rw [par_zero hm] at h2; omega
    obtain ⟨_, _, hp⟩ := par_pos hm h1 h0
    exact ⟨h1, h0, by omega⟩
  · rintro ⟨h1, h0, h2⟩
    obtain ⟨_, _, hp⟩ := par_pos hm h1 h0
    exact ⟨h1, by omega⟩
theorem kidsN_sorted (T : List Node) (i : Int) : (kidsN T i).Pairwise (· < ·) := List.Pairwise.filter _ List.pairwise_lt_range
theorem kidsN_len (T : List Node) (i : Int) : (kidsN T i).length ≤ T.length := by unfold kidsN; exact Nat.le_trans (List.length_filter_le _ _) (by simp)
theorem count_sorted {L : List Nat} (h : L.Pairwise (· < ·)) (i : Nat) : L.count i = if i ∈ L then 1 else 0 := by
  have hn : L.Nodup := List.Pairwise.imp (fun h => Nat.ne_of_lt h) h
  by_cases hi : i ∈ L
  · rw [if_pos hi]
    exact Nat.le_antisymm (List.nodup_iff_count.1 hn i) (List.one_le_count_iff.2 hi)
  · rw [if_neg hi]
    exact List.count_eq_zero.2 hi
/-- How often a place was a child of the first places. -/
def cntTo (T : List Node) (i k : Nat) : Nat := if i ≠ 0 ∧ up T i < k then 1 else 0
theorem cntTo_succ {T : List Node} (hm : mayV T = true) {i k : Nat} (hi : i < T.length) : cntTo T i (k + 1) = cntTo T i k + (kidsN T (k : Int)).count i := by
  rw [count_sorted (kidsN_sorted T _)]
  unfold cntTo
  by_cases h0 : i = 0
  · subst h0
    rw [if_neg (by simp), if_neg (by simp), if_neg (fun h => ((mem_kidsN hm).1 h).2.1 rfl)]
  · by_cases hk : up T i = k
    · rw [if_pos ⟨h0, by omega⟩, if_neg (by omega), if_pos ((mem_kidsN hm).2 ⟨hi, h0, hk⟩)]
    · rw [if_neg (fun h => hk ((mem_kidsN hm).1 h).2.2)]
      by_cases hlt : up T i < k
      · rw [if_pos ⟨h0, by omega⟩, if_pos ⟨h0, hlt⟩]
      · rw [if_neg (by omega), if_neg (by omega)]
theorem cntTo_end {T : List Node} {i : Nat} (hi : i < T.length) : cntTo T i T.length = if i = 0 then 0 else 1 := by
  unfold cntTo
  by_cases h0 : i = 0
  · subst h0; simp
  · have := up_lt T h0
    rw [if_pos ⟨h0, by omega⟩, if_neg h0]
theorem take_count {L : List Nat} {j c : Nat} (h : L[j]? = some c) (i : Nat) : (L.take (j + 1)).count i = (L.take j).count i + if c = i then 1 else 0 := by
  rw [List.take_add_one, h]
  simp only [Option.toList_some, List.count_append, List.count_cons, List.count_nil, Nat.zero_add]
  congr 1
  by_cases e : c = i <;> simp [e]
end Tree
set_option maxRecDepth 100000 in
set_option maxHeartbeats 1500000 in
theorem TreeKids_walk {w : World} (tA : Option Addr) (tn tc : Nat) (t : List Node) (ht : NL w tA tn tc t) (i : Int) (i1 : -9223372036854775808 ≤ i) (i2 : i ≤ 9223372036854775807) :
    Calls Try.prog 6 #[.agg #[.slice tA tn tc], .int .i64 i] w fun e' w' => e' = .returned (.bool true) ∧ Ext w w' := by
  have hlen := ht.len
  have hroom := ht.row.room
  have HAW := Lib.hid (fun W => awake_any W)
  have HV := Lib.hid (fun W (k : Ext w W) => ht.ext k)
  have HM := Lib.hid (fun b (hb : Tree.mayV t = b) W (k : Ext w W) => treeMay_is tA tn tc t b hb W (ht.ext k))
  cases hm : Tree.mayV t with
  | false =>
    go_enter Try.func6, Try.ntmps6
    try simp only [List.append_eq, List.cons_append, List.nil_append]
    go_wp2_with fail
    refine (HAW.out _).mono ?_
    rintro e0 w0 ⟨rfl, hx0⟩
    have k0 : Ext w w0 := Ext.trans ((by repeat (first | assumption | exact Ext.refl _ | refine Ext.alloc ?_ _ | refine Ext.drew ?_ | refine Ext.drewN ?_ _ | refine Ext.setCell ?_ (by first | (simp; done) | omega | (simp; omega)) _ | refine Ext.trans (by assumption) ?_))) hx0
    have t0 := hx0.cell (p := ⟨w.heap.size, 0, none⟩) (v := .slice tA tn tc) (by first | (simp; done) | (simp (maxDischargeDepth := 7) [go_sem]; done))
    go_wp2_with fail
    refine (HM.out false hm _ k0).mono ?_
    rintro e1 w1 ⟨rfl, hx1⟩
    have k1 : Ext w w1 := k0.trans hx1
    replace t0 := hx1.cell t0
    go_wp2
    go_ret
    exact ⟨rfl, k1⟩
  | true =>
    by_cases hok : 0 ≤ i ∧ i < tn
    · obtain ⟨p1, p2⟩ := hok
      have h12 := Tree.len_le hm
      rw [hlen] at h12
      obtain ⟨i, rfl⟩ := Int.eq_ofNat_of_zero_le p1
      have li : i < t.length := by omega
      have HK := Lib.hid (fun (k : Nat) (hk : k < tn) W (kx : Ext w W) => kids_any tA tn tc t (k : Int) (wf_i64 (by omega) (by omega)) W (ht.ext kx))
      have HKV := Lib.hid (fun (k : Nat) (hk : k < tn) => (by unfold Tree.kidsV; rw [Tree.isV_in hm (by omega) (by omega), if_pos rfl] : Tree.kidsV t (k : Int) = (Tree.kidsN t (k : Int)).map (fun k => ((k : Nat) : Int))))
      have r1 : decide ((i : Int) < 0) = false := decide_eq_false (by omega)
      have q1 : decide (tn ≤ i) = false := decide_eq_false (by omega)
      have HMA := Lib.hid hm
      have HLI := Lib.hid li
      go_enter Try.func6, Try.ntmps6
      try simp only [List.append_eq, List.cons_append, List.nil_append]
      go_wp2_with fail
      refine (HAW.out _).mono ?_
      rintro e0 w0 ⟨rfl, hx0⟩
      have k0 : Ext w w0 := Ext.trans ((by repeat (first | assumption | exact Ext.refl _ | refine Ext.alloc ?_ _ | refine Ext.drew ?_ | refine Ext.drewN ?_ _ | refine Ext.setCell ?_ (by first | (simp; done) | omega | (simp; omega)) _ | refine Ext.trans (by assumption) ?_))) hx0
      have t0 := hx0.cell (p := ⟨w.heap.size, 0, none⟩) (v := .slice tA tn tc) (by first | (simp; done) | (simp (maxDischargeDepth := 7) [go_sem]; done))
      go_wp2_with fail
      refine (HM.out true hm _ k0).mono ?_
      rintro e1 w1 ⟨rfl, hx1⟩
      have k1 : Ext w w1 := k0.trans hx1
      replace t0 := hx1.cell t0
      clear HAW HM hm li
      go_wp2
      have T0 := Lib.hid t0
      clear t0
      go_loopw [6, 7, 8, 9] (fun n' k' _ _ wr => ∃ k : Nat, k ≤ tn ∧ k' = .int .i64 k ∧ n' = .int .i64 (Tree.cntTo t i k : Nat) ∧ Ext w1 wr) (fun _ k' _ _ _ => tn - (intOf k').toNat)
      case atStart => exact ⟨0, Nat.zero_le _, rfl, by simp [Tree.cntTo], Ext.refl _⟩
      case round =>
        obtain ⟨k, hk, rfl, rfl, hxr⟩ := hrel
        have kk := k1.trans hxr
        have tt := hxr.cell T0.out
        by_cases hlt : k < tn
        · have gk : (k : Int) < tn := by omega
          go_wp2_with fail
          refine (HK.out k hlt _ kk).mono ?_
          rintro e2 w2 ⟨⟨v, rfl, ⟨LA, m, d, rfl, hL⟩⟩, hx2⟩
          rw [HKV.out k hlt] at hL
          have k2 : Ext w w2 := kk.trans hx2
          have k2' : Ext w1 w2 := hxr.trans hx2
          have t2 := hx2.cell tt
          obtain ⟨L, hLdef⟩ : ∃ L, Tree.kidsN t (k : Int) = L := ⟨_, rfl⟩
          rw [hLdef] at hL
          have HLD := Lib.hid hLdef
          have hlenL : L.length = m := by have := hL.len; simpa using this
          have HLL := Lib.hid hlenL
          have hm12 : m ≤ 12 := by
            have := Tree.kidsN_len t (k : Int)
            rw [hLdef, hlenL, hlen] at this; omega
          have HLW := Lib.hid (fun W (kx : Ext w2 W) => hL.ext kx)
          have T2 := Lib.hid t2
          have hc1 : Tree.cntTo t i k ≤ 1 := by unfold Tree.cntTo; split <;> omega
          obtain ⟨q, hq⟩ : ∃ q, Tree.cntTo t i k = q := ⟨_, rfl⟩
          rw [hq] at hc1 ⊢
          have HQ := Lib.hid hq
          clear tt t2 hLdef hlenL hL hq
          go_wp2
          obtain ⟨wo, rfl⟩ : ∃ wo : World, wo = wr := ⟨_, rfl⟩
          go_loopw [6, 9] (fun n' j' wi => ∃ j : Nat, j ≤ m ∧ j' = .int .i64 j ∧ n' = .int .i64 ((q + (L.take j).count i : Nat)) ∧ Ext w2 wi) (fun _ j' _ => m - (intOf j').toNat)
          case atStart => exact ⟨0, Nat.zero_le _, rfl, by simp, Ext.refl _⟩
          case round =>
            obtain ⟨j, hj, rfl, rfl, hxi⟩ := hrel
            have ki := k2.trans hxi
            have ti := hxi.cell T2.out
            by_cases hjm : j < m
            · obtain ⟨c, hc⟩ : ∃ c, L[j]? = some c := ⟨_, List.getElem?_eq_getElem (by rw [HLL.out]; exact hjm)⟩
              obtain ⟨bl, ol, rfl, hcs⟩ := (HLW.out _ hxi).cells (by omega)
              have dx := hcs j hjm
              have hnx : ∀ (x : Nat) (y : Nat), L[x]? = some y → nth (L.map (fun k => ((k : Nat) : Int))) x = (y : Int) := fun x y h => by
                simp [nth, List.getD, List.getElem?_map, h]
              rw [hnx j c hc] at dx
              have hmc := (Tree.mem_kidsN HMA.out).1 (by rw [HLD.out]; exact List.mem_of_getElem? hc : c ∈ Tree.kidsN t (k : Int))
              obtain ⟨hc1n, hc0, hcu⟩ := hmc
              have hck := Tree.up_lt t hc0
              rw [hcu] at hck
              have hsl := Tree.slot_up HMA.out hc1n hc0
              rw [hcu] at hsl
              rw [hlen] at hc1n
              have HCNT := Lib.hid (Tree.take_count hc i)
              have hcl : (L.take j).count i ≤ j := Nat.le_trans List.count_le_length (by simp; omega)
              obtain ⟨cn, hcn⟩ : ∃ cn, (L.take j).count i = cn := ⟨_, rfl⟩
              rw [hcn] at hcl HCNT ⊢
              obtain ⟨b, off, rfl, hr1, ho1⟩ := (HV.out _ ki).at' hc1n
              have d1 := rangeAt_head hr1 (Node.at33 ho1)
              change World.cell? _ _ = some (.int .u64 (Tree.nd t c).slot) at d1
              obtain ⟨b', off', e', hr2, ho2⟩ := (HV.out _ ki).at' hlt
              cases e'
              have d2 := rangeAt_head hr2 (Node.at33 ho2)
              change World.cell? _ _ = some (.int .u64 (Tree.nd t k).slot) at d2
              generalize (Tree.nd t c).slot = zc at d1 hsl
              generalize (Tree.nd t k).slot = zk at d2 hsl
              have f1 : decide (c ≤ k) = false := decide_eq_false (by omega)
              have f2 : decide (tn ≤ c) = false := decide_eq_false (by omega)
              have f3 : decide (zc ≤ zk) = false := decide_eq_false (by omega)
              have f4 : (j : Int) < m := by omega
              have f5 : (c : Int) < tn := by omega
              have HPV : Hid (∀ p cp, j = p + 1 → L[p]? = some cp → cp < c) := fun p cp e h => by
                have hp := Tree.kidsN_sorted t (k : Int)
                rw [HLD.out] at hp
                obtain ⟨h1, e1⟩ := List.getElem?_eq_some_iff.1 h
                obtain ⟨h2, e2⟩ := List.getElem?_eq_some_iff.1 hc
                have := List.pairwise_iff_getElem.1 hp p j h1 h2 (by omega)
                rwa [e1, e2] at this
              have HCN := Lib.hid hcn
              clear hr1 ho1 hr2 ho2 hc hc0 hcu hcn
              by_cases hci : c = i
              · have g5 : ((c : Int) == i) = true := by simp; omega
                have hw : IntKind.i64.wrap (((q + cn : Nat) : Int) + 1) = ((q + cn + 1 : Nat) : Int) := by rw [IntKind.wrap_i64]; omega
                have hst : Hid (cn + 1 = (L.take (j + 1)).count i) := by show _ = _; rw [HCNT.out, if_pos hci]
                clear hci
                rcases Nat.eq_zero_or_pos j with hj0 | hj0
                · have f6 : decide (0 < j) = false := decide_eq_false (by omega)
                  have HJ0 := Lib.hid hj0
                  clear hj0 hcs hnx
                  go_wp2
                  refine wp_region_quiet_lit (by kernel_rfl) (by kernel_rfl) ?_
                  repeat (first | go_big_quiet_skip | (go_big_quiet_want; first | ((fail); (try simp only [Act.put, List.setIfInBounds_toArray, List.set_cons_zero, List.set_cons_succ]); go_big_quiet_on) | (go_big_quiet_op; first | go_big_quiet_on | go_big_quiet_call (fail))))
                  refine wpQuiet_nil ?_
                  intro _ hw'
                  obtain ⟨nq', hw''⟩ := hw'
                  subst hw''
                  go_wp2
                  go_roundw
                  case rel => exact ⟨j + 1, by omega, by go_num, by first | (rw [← hst.out]; done) | (rw [← hst.out]; go_num), hxi.drewN _⟩
                  case measure => simp [intOf]; omega
                · obtain ⟨p, rfl⟩ : ∃ p, j = p + 1 := ⟨j - 1, by omega⟩
                  obtain ⟨cp, hcp⟩ : ∃ cp, L[p]? = some cp := ⟨_, List.getElem?_eq_getElem (by rw [HLL.out]; omega)⟩
                  have hlt2 := HPV.out p cp rfl hcp
                  have dp := hcs p (by omega)
                  rw [hnx p cp hcp] at dp
                  have f6 : decide (c ≤ cp) = false := decide_eq_false (by omega)
                  have f7 : decide (0 < p + 1) = true := decide_eq_true (by omega)
                  have f8 : (p : Int) < m := by omega
                  clear hcp hcs hnx hj0
                  go_wp2
                  refine wp_region_quiet_lit (by kernel_rfl) (by kernel_rfl) ?_
                  repeat (first | go_big_quiet_skip | (go_big_quiet_want; first | ((fail); (try simp only [Act.put, List.setIfInBounds_toArray, List.set_cons_zero, List.set_cons_succ]); go_big_quiet_on) | (go_big_quiet_op; first | go_big_quiet_on | go_big_quiet_call (fail))))
                  refine wpQuiet_nil ?_
                  intro _ hw'
                  obtain ⟨nq', hw''⟩ := hw'
                  subst hw''
                  go_wp2
                  go_roundw
                  case rel => exact ⟨p + 1 + 1, by omega, by go_num, by first | (rw [← hst.out]; done) | (rw [← hst.out]; go_num), hxi.drewN _⟩
                  case measure => simp [intOf]; omega
              · have g5 : ((c : Int) == i) = false := by simp; omega
                have hst : Hid (cn = (L.take (j + 1)).count i) := by show _ = _; rw [HCNT.out, if_neg hci]; rfl
                clear hci
                rcases Nat.eq_zero_or_pos j with hj0 | hj0
                · have f6 : decide (0 < j) = false := decide_eq_false (by omega)
                  have HJ0 := Lib.hid hj0
                  clear hj0 hcs hnx
                  go_wp2
                  refine wp_region_quiet_lit (by kernel_rfl) (by kernel_rfl) ?_
                  repeat (first | go_big_quiet_skip | (go_big_quiet_want; first | ((fail); (try simp only [Act.put, List.setIfInBounds_toArray, List.set_cons_zero, List.set_cons_succ]); go_big_quiet_on) | (go_big_quiet_op; first | go_big_quiet_on | go_big_quiet_call (fail))))
                  refine wpQuiet_nil ?_
                  intro _ hw'
                  obtain ⟨nq', hw''⟩ := hw'
                  subst hw''
                  go_wp2
                  go_roundw
                  case rel => exact ⟨j + 1, by omega, by go_num, by first | (rw [← hst.out]; done) | (rw [← hst.out]; go_num), hxi.drewN _⟩
                  case measure => simp [intOf]; omega
                · obtain ⟨p, rfl⟩ : ∃ p, j = p + 1 := ⟨j - 1, by omega⟩
                  obtain ⟨cp, hcp⟩ : ∃ cp, L[p]? = some cp := ⟨_, List.getElem?_eq_getElem (by rw [HLL.out]; omega)⟩
                  have hlt2 := HPV.out p cp rfl hcp
                  have dp := hcs p (by omega)
                  rw [hnx p cp hcp] at dp
                  have f6 : decide (c ≤ cp) = false := decide_eq_false (by omega)
                  have f7 : decide (0 < p + 1) = true := decide_eq_true (by omega)
                  have f8 : (p : Int) < m := by omega
                  clear hcp hcs hnx hj0
                  go_wp2
                  refine wp_region_quiet_lit (by kernel_rfl) (by kernel_rfl) ?_
                  repeat (first | go_big_quiet_skip | (go_big_quiet_want; first | ((fail); (try simp only [Act.put, List.setIfInBounds_toArray, List.set_cons_zero, List.set_cons_succ]); go_big_quiet_on) | (go_big_quiet_op; first | go_big_quiet_on | go_big_quiet_call (fail))))
                  refine wpQuiet_nil ?_
                  intro _ hw'
                  obtain ⟨nq', hw''⟩ := hw'
                  subst hw''
                  go_wp2
                  go_roundw
                  case rel => exact ⟨p + 1 + 1, by omega, by go_num, by first | (rw [← hst.out]; done) | (rw [← hst.out]; go_num), hxi.drewN _⟩
                  case measure => simp [intOf]; omega
            · have e : j = m := by omega
              subst e
              have hcn : Hid (q + (L.take j).count i = Tree.cntTo t i (k + 1)) := by
                show _ = _
                rw [Tree.cntTo_succ HMA.out HLI.out, HQ.out, HLD.out, List.take_of_length_le (by rw [HLL.out]; exact Nat.le_refl _)]
              rw [hcn.out]
              go_wp2
              go_roundw
              case rel => exact ⟨k + 1, by omega, by go_num, rfl, k2'.trans hxi⟩
              case measure => simp [intOf]; omega
        · have e : k = tn := by omega
          subst e
          have hc : Hid (Tree.cntTo t i k = if i = 0 then 0 else 1) := by
            show _ = _
            have := Tree.cntTo_end HLI.out
            rwa [hlen] at this
          by_cases h0 : i = 0
          · rw [hc.out, if_pos h0]
            have g0 : ((i : Int) == 0) = true := by simp; omega
            have g1 : decide ((0 : Int) < i) = false := decide_eq_false (by omega)
            clear h0
            go_wp2
            go_ret
            exact ⟨rfl, kk⟩
          · rw [hc.out, if_neg h0]
            have g1 : decide ((0 : Int) < i) = true := decide_eq_true (by omega)
            have g2 : decide (0 < i) = true := decide_eq_true (by omega)
            have g3 : 0 < i := by omega
            clear h0
            go_wp2
            go_ret
            exact ⟨rfl, kk⟩
    · go_enter Try.func6, Try.ntmps6
      try simp only [List.append_eq, List.cons_append, List.nil_append]
      go_wp2_with fail
      refine (HAW.out _).mono ?_
      rintro e0 w0 ⟨rfl, hx0⟩
      have k0 : Ext w w0 := Ext.trans ((by repeat (first | assumption | exact Ext.refl _ | refine Ext.alloc ?_ _ | refine Ext.drew ?_ | refine Ext.drewN ?_ _ | refine Ext.setCell ?_ (by first | (simp; done) | omega | (simp; omega)) _ | refine Ext.trans (by assumption) ?_))) hx0
      have t0 := hx0.cell (p := ⟨w.heap.size, 0, none⟩) (v := .slice tA tn tc) (by first | (simp; done) | (simp (maxDischargeDepth := 7) [go_sem]; done))
      go_wp2_with fail
      refine (HM.out true hm _ k0).mono ?_
      rintro e1 w1 ⟨rfl, hx1⟩
      have k1 : Ext w w1 := k0.trans hx1
      replace t0 := hx1.cell t0
      clear HAW HM HV
      go_wp2
      all_goals (first | (go_ret; exact ⟨rfl, k1⟩) | (exfalso; apply hok; refine ⟨?_, ?_⟩ <;> omega))
set_option maxRecDepth 100000 in
theorem TreeKids_lifted (os : Os) (started : os.Started) (H : Type) (enc : TypeId × Value → H) :
    ReturnsInHanded {} Try.checked os 6 .any (Rows.treeKidsSpec.pre6 enc Try.prog Try.f6 Rows.treeKidsRow.domain false) (Rows.treeKidsSpec.post enc Try.prog Try.f6 false true false false) := by
  refine returnsInHanded_of_change_sized (C := Try.checked) own started (by kernel_rfl) Try.func6
    (ChangeSpec.witness6 (enc := enc) (C := Try.checked) false ⟨#[], #[.agg #[.slice none 0 0], .int .i64 0], []⟩ 8 (by kernel_rfl) (by kernel_rfl) (by kernel_rfl) (by kernel_rfl)) ?_
  intro W base args ds gs before hval0 hW _hcnd hsz0 _
  have hval : ∀ (j : Nat) t v, Try.f6.params[j]? = some t → args[j]? = some v → Value.okWide Try.prog W .any base t v := hval0
  have hsz : (DataW.weightsEach Try.prog (Try.f6.params.toList ++ Rows.treeKidsSpec.plain.varTypes Try.prog) (ds ++ gs)).all (· ≤ reachBytes) = true := hsz0
  have hW' := hW
  obtain ⟨p, q, hA0, hV, rfl, hfz, hnd⟩ := hW
  have hA : DataW.TrodAll enc Try.prog W 0 (fun _ => true) true Try.f6.params.toList args.toList ds p := hA0
  rw [Try.params6] at hA hval hsz
  obtain ⟨v0, vs0, d0, ds0, p0, q0, hargs, rfl, rfl, h0, r0⟩ := trodAll_cons hA
  obtain ⟨v1, vs1, d1, ds1, p1, q1, rfl, rfl, rfl, h1, r1⟩ := trodAll_cons r0
  obtain ⟨rfl, rfl, rfl⟩ := trodAll_nil r1
  obtain rfl : args = #[v0, v1] := by cases args; simp_all
  obtain ⟨rfl, rfl⟩ := trodVars_none hV
  have h0k := h0
  have h1k := h1
  have hlt0 : ∀ x ∈ p0, x.block < W.heap.size := fun x hx => by have := hW'.lt x (by simp [hx]); simpa using this
  have hlt1 : ∀ x ∈ p1, x.block < W.heap.size := fun x hx => by have := hW'.lt x (by simp [hx]); simpa using this
  obtain ⟨tA, tn, tc, t, rfl, ht⟩ := open_tree (hval 0 24 v0 rfl rfl) h0 hsz (j := 0) rfl rfl
  obtain ⟨i, rfl, hi1, hi2⟩ := open_I64 Try.underlying3 (hval 1 3 v1 rfl rfl) h1
  clear hA0 hval0
  simp only [List.append_nil] at hW'
  refine (TreeKids_walk tA tn tc t ht i hi1 hi2 (w := W)).mono fun e W' ⟨he, hg⟩ => ?_
  subst he
  exact ⟨_, rfl, post_law (pa := p0 ++ (p1 ++ [])) (pv := []) hW' (fun _ _ _ => (trodAll_cons_mk (shut_bool Try.underlying4 _) trodAll_mk0))
    (trodAll_cons_mk (Below.trod laidOut (by kernel_rfl) (of_decide_eq_true (by kernel_rfl)) h0k hg.out hlt0) (trodAll_cons_mk (Below.trod laidOut (by kernel_rfl) (of_decide_eq_true (by kernel_rfl)) h1k hg.out hlt1) trodAll_mk0)) rfl (by simp) hg⟩
theorem TreeKids_holds : Rows.TreeKidsSaid :=
  OpenClaim.holds_of_wide 6 Try.f6 rfl rfl rfl rfl rfl rfl rfl ⟨rfl, rfl, rfl, rfl, rfl⟩ rfl rfl rfl rfl rfl (by kernel_rfl) Try.func6 (by kernel_rfl)
    (of_decide_eq_true (by kernel_rfl)) (by unfold Func.isWrapper; first | (rw [if_pos (by decide +kernel)]; kernel_rfl) | (rw [if_neg (by decide +kernel)]; exact ⟨rfl, rfl⟩))
    (fun os started H enc _ => TreeKids_lifted os started H enc)
#print axioms TreeKids_holds
end Go.Proofs.Ytoifhpcpahfddaa
