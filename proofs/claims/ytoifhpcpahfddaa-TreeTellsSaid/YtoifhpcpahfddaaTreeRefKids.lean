/- The document's answer for layer 6: Kids, Find. -/
import Derived.Test.YtoifhpcpahfddaaTreeRef
import Derived.Test.YtoifhpcpahfddaaTreeKids
namespace Go.Proofs.Ytoifhpcpahfddaa
open Go.RowKit Go.WideShapes Go.ChangeShapes
set_option linter.unusedVariables false
set_option linter.unusedSimpArgs false





set_option maxHeartbeats 2000000 in
theorem rkids_any (A : Option Addr) (n c : Nat) (NS : List Node) (i : Int) (hi : (Lit.int .i64 i).wf = true) (w : World) (h : NL w A n c NS) :
    Calls Try.prog 26 #[.agg #[.slice A n c], .int .i64 i] w fun e w' => (∃ v, e = .returned v ∧ IsInts w' .i64 v (Tree.kidsV NS i)) ∧ Ext w w' := by
  have hlen := h.len
  have hroom := h.row.room
  have HV := Lib.hid (fun W (k : Ext w W) => h.ext k)
  have HI := Lib.hid (fun b (hb : Tree.isV NS i = b) W (kx : Ext w W) => ris_is A n c NS i b hb W (h.ext kx))
  clear h
  cases hq : Tree.isV NS i with
  | false =>
    have e : Tree.kidsV NS i = [] := by unfold Tree.kidsV; rw [hq]; rfl
    rw [e]
    replace HI := Lib.hid (fun W (kx : Ext w W) => HI.out false hq W kx)
    clear hq e
    go_enter Try.func26, Try.ntmps26
    go_wp2_with fail
    refine (HI.out _ ((by repeat (first | assumption | exact Ext.refl _ | refine Ext.alloc ?_ _ | refine Ext.drew ?_ | refine Ext.drewN ?_ _ | refine Ext.setCell ?_ (by first | (simp; done) | omega | (simp; omega)) _ | refine Ext.trans (by assumption) ?_)))).mono ?_
    rintro e w1 ⟨rfl, hx1⟩
    have k1 : Ext w w1 := Ext.trans ((by repeat (first | assumption | exact Ext.refl _ | refine Ext.alloc ?_ _ | refine Ext.drew ?_ | refine Ext.drewN ?_ _ | refine Ext.setCell ?_ (by first | (simp; done) | omega | (simp; omega)) _ | refine Ext.trans (by assumption) ?_))) hx1
    have t0 := hx1.cell (p := ⟨w.heap.size, 0, none⟩) (v := .slice A n c) (by first | (simp; done) | (simp (maxDischargeDepth := 7) [go_sem]; done))
    go_wp2
    go_loopw [5, 7] (fun v i' wr => v = .slice none 0 0 ∧ i' = .int .i64 0 ∧ wr = w1) (fun _ _ _ => 0)
    case atStart => exact ⟨rfl, rfl, rfl⟩
    case round =>
      obtain ⟨rfl, rfl, rfl⟩ := hrel
      go_wp2
      all_goals (go_ret; exact ⟨⟨_, rfl, ⟨none, 0, 0, rfl, Ints.nil_mk _ _⟩⟩, k1⟩)
  | true =>
    have hm : Tree.mayV NS = true := by unfold Tree.isV at hq; simp at hq; exact hq.1
    have h12 := Tree.len_le hm
    rw [hlen] at h12
    have e : Tree.kidsV NS i = kidsTo NS i n := by unfold Tree.kidsV; rw [hq, if_pos rfl]; unfold Tree.kidsN kidsTo; rw [hlen]
    rw [e]
    replace HI := Lib.hid (fun W (kx : Ext w W) => HI.out true hq W kx)
    clear hq e hm
    go_enter Try.func26, Try.ntmps26
    go_wp2_with fail
    refine (HI.out _ ((by repeat (first | assumption | exact Ext.refl _ | refine Ext.alloc ?_ _ | refine Ext.drew ?_ | refine Ext.drewN ?_ _ | refine Ext.setCell ?_ (by first | (simp; done) | omega | (simp; omega)) _ | refine Ext.trans (by assumption) ?_)))).mono ?_
    rintro e w1 ⟨rfl, hx1⟩
    have k1 : Ext w w1 := Ext.trans ((by repeat (first | assumption | exact Ext.refl _ | refine Ext.alloc ?_ _ | refine Ext.drew ?_ | refine Ext.drewN ?_ _ | refine Ext.setCell ?_ (by first | (simp; done) | omega | (simp; omega)) _ | refine Ext.trans (by assumption) ?_))) hx1
    have t0 := hx1.cell (p := ⟨w.heap.size, 0, none⟩) (v := .slice A n c) (by first | (simp; done) | (simp (maxDischargeDepth := 7) [go_sem]; done))
    have T0 := Lib.hid t0
    go_wp2
    clear t0
    go_loopw [5, 7] (fun v i' wr => ∃ k : Nat, k ≤ n ∧ i' = .int .i64 k ∧ wr.ownsRow w1.heap.size 3 1 v (kidsTo NS i k).length ((kidsTo NS i k).map (Value.int .i64)) ∧ Ext w1 wr) (fun _ i' _ => n - (intOf i').toNat)
    case atStart => exact ⟨0, Nat.zero_le _, rfl, own_new _ _ _ _, Ext.refl _⟩
    case round =>
      obtain ⟨k, hk, rfl, hown, hx⟩ := hrel
      have t0 := hx.cell T0.out
      by_cases hlt : k < n
      · obtain ⟨b, off, rfl, hr, hok⟩ := (HV.out wr (k1.trans hx)).at' hlt
        have d0 := rangeAt_head hr (Node.at32 hok)
        change World.cell? _ _ = some (.int .i64 (Tree.nd NS k).par) at d0
        obtain ⟨p, ep⟩ : ∃ p, (Tree.nd NS k).par = p := ⟨_, rfl⟩
        rw [ep] at d0
        have g1 : (k : Int) < n := by omega
        have hs1 := hx.size
        have hkl := kidsTo_len NS i k
        have HOW := Lib.hid hown
        by_cases hp : p = i
        · have hst := Lib.hid (kidsTo_yes (NS := NS) (i := i) (k := k) (by rw [ep]; exact hp))
          have gp : (p == i) = true := by simp [hp]
          clear ep hp hown hr hok
          go_wp2_with (at_builtin; refine wpList_app rowInts rfl _ _ rfl w1.heap.size _ _ _ rfl (HOW.out.alloc _) (some ⟨wr.heap.size, 0, none⟩) 1 1 [.int .i64 k] rfl (src_at rfl (by simp)) (by omega) (by first | (simp; done) | (simp; omega)) ?_; intro v' w2 hown2 hgrow2 _)
          have hx2 : Ext w1 w2 := (hx.alloc _).grown hgrow2 (fun j e => own_from HOW.out j e)
          go_roundw
          case rel =>
            have ho2 : w2.ownsRow w1.heap.size 3 1 v' (kidsTo NS i (k + 1)).length ((kidsTo NS i (k + 1)).map (Value.int .i64)) := by rw [hst.out]; simpa using hown2
            first | exact ⟨k + 1, by omega, by go_num, ho2, hx2⟩ | (refine ⟨_, ⟨k + 1, by omega, ?_, ho2, hx2⟩, rfl⟩; go_num)
          case measure => simp [intOf]; omega
        · have hst := Lib.hid (kidsTo_no (NS := NS) (i := i) (k := k) (by rw [ep]; exact hp))
          have gp : (p == i) = false := by simp [hp]
          clear ep hp hown hr hok
          go_wp2
          go_roundw
          case rel =>
            have ho2 := HOW.out
            rw [← hst.out] at ho2
            first | exact ⟨k + 1, by omega, by go_num, ho2, hx⟩ | (refine ⟨_, ⟨k + 1, by omega, ?_, ho2, hx⟩, rfl⟩; go_num)
          case measure => simp [intOf]; omega
      · have e : k = n := by omega
        subst e
        have HOW := Lib.hid hown
        clear hown
        go_wp2
        go_ret
        exact ⟨⟨_, rfl, isInts_own HOW.out (by have := kidsTo_len NS i k; omega) (kidsTo_wf h12)⟩, k1.trans hx⟩
theorem idx_first {NS : List Node} {r : List Int} {k : Nat} (hk : k < NS.length) (h : (Tree.nd NS k).root = r) (hn : r ∉ (Tree.roots NS).take k) : r ∈ Tree.roots NS ∧ (Tree.roots NS).idxOf r = k := by
  have hg := Tree.roots_get hk
  rw [h] at hg
  have hm := List.mem_of_getElem? hg
  refine ⟨hm, ?_⟩
  have hlt := List.idxOf_lt_length_of_mem hm
  have hi : (Tree.roots NS)[(Tree.roots NS).idxOf r]? = some r := by rw [List.getElem?_eq_getElem hlt]; simp
  rcases Nat.lt_trichotomy ((Tree.roots NS).idxOf r) k with hl | he | hg2
  · exact absurd (List.mem_of_getElem? (by rw [List.getElem?_take_of_lt hl]; exact hi)) hn
  · exact he
  · have h2 : (Tree.roots NS).idxOf r ≤ k := by
      obtain ⟨hk2, e⟩ := List.getElem?_eq_some_iff.1 hg
      rcases Nat.lt_or_ge k ((Tree.roots NS).idxOf r) with hc | hc
      · exact absurd e (by have := List.not_of_lt_findIdx (p := (· == r)) (xs := Tree.roots NS) (i := k) hc; simpa using this)
      · exact hc
    omega
set_option maxHeartbeats 2000000 in
theorem rfind_any (A : Option Addr) (n c : Nat) (NS : List Node) (r : List Int) (hr : RootOk r) (w : World) (h : NL w A n c NS) :
    Calls Try.prog 30 #[.agg #[.slice A n c], .agg (rootC r).toArray] w fun e w' => e = .returned (.int .i64 (Tree.findV NS r)) ∧ Ext w w' := by
  have hlen := h.len
  have hroom := h.row.room
  have hi32 : (Try.prog.info? 32).map (·.size) = some (rootC r).length := by rw [rootC_len hr]; kernel_rfl
  have HV := Lib.hid (fun W (k : Ext w W) => h.ext k)
  have HM := Lib.hid (fun b (hb : Tree.mayV NS = b) W (k : Ext w W) => rmay_is A n c NS b hb W (h.ext k))
  have rR := range_at (w := w.alloc (.cells #[.slice A n c] 24)) (B := w.heap.size + 1) (rootC r) 32 (by simp)
  clear h
  cases hm : Tree.mayV NS with
  | false =>
    rw [findV_no hm]
    replace HM := Lib.hid (fun W (kx : Ext w W) => HM.out false hm W kx)
    go_enter Try.func30, Try.ntmps30
    go_wp2_with fail
    refine (HM.out _ ((by repeat (first | assumption | exact Ext.refl _ | refine Ext.alloc ?_ _ | refine Ext.drew ?_ | refine Ext.drewN ?_ _ | refine Ext.setCell ?_ (by first | (simp; done) | omega | (simp; omega)) _ | refine Ext.trans (by assumption) ?_)))).mono ?_
    rintro e w1 ⟨rfl, hx1⟩
    have k1 : Ext w w1 := Ext.trans ((by repeat (first | assumption | exact Ext.refl _ | refine Ext.alloc ?_ _ | refine Ext.drew ?_ | refine Ext.drewN ?_ _ | refine Ext.setCell ?_ (by first | (simp; done) | omega | (simp; omega)) _ | refine Ext.trans (by assumption) ?_))) hx1
    have t0 := hx1.cell (p := ⟨w.heap.size, 0, none⟩) (v := .slice A n c) (by first | (simp; done) | (simp (maxDischargeDepth := 7) [go_sem]; done))
    go_wp2
    go_loopw [6] (fun i' wr => i' = .int .i64 0 ∧ wr = w1) (fun _ _ => 0)
    case atStart => exact ⟨rfl, rfl⟩
    case round =>
      obtain ⟨rfl, rfl⟩ := hrel
      go_wp2
      all_goals (go_ret; exact ⟨rfl, k1⟩)
  | true =>
    replace HM := Lib.hid (fun W (kx : Ext w W) => HM.out true hm W kx)
    have HMA := Lib.hid hm
    clear hm
    go_enter Try.func30, Try.ntmps30
    go_wp2_with fail
    refine (HM.out _ ((by repeat (first | assumption | exact Ext.refl _ | refine Ext.alloc ?_ _ | refine Ext.drew ?_ | refine Ext.drewN ?_ _ | refine Ext.setCell ?_ (by first | (simp; done) | omega | (simp; omega)) _ | refine Ext.trans (by assumption) ?_)))).mono ?_
    rintro e w1 ⟨rfl, hx1⟩
    have k1 : Ext w w1 := Ext.trans ((by repeat (first | assumption | exact Ext.refl _ | refine Ext.alloc ?_ _ | refine Ext.drew ?_ | refine Ext.drewN ?_ _ | refine Ext.setCell ?_ (by first | (simp; done) | omega | (simp; omega)) _ | refine Ext.trans (by assumption) ?_))) hx1
    have t0 := hx1.cell (p := ⟨w.heap.size, 0, none⟩) (v := .slice A n c) (by first | (simp; done) | (simp (maxDischargeDepth := 7) [go_sem]; done))
    replace rR := rangeAt_ext rR hx1
    have T0 := Lib.hid t0
    have RR := Lib.hid rR
    go_wp2
    clear t0 rR
    go_loopw [6] (fun i' wr => ∃ k : Nat, k ≤ n ∧ i' = .int .i64 k ∧ r ∉ (Tree.roots NS).take k ∧ Ext w1 wr) (fun i' _ => n - (intOf i').toNat)
    case atStart => exact ⟨0, Nat.zero_le _, rfl, by simp, Ext.refl _⟩
    case round =>
      obtain ⟨k, hk, rfl, hnot, hx⟩ := hrel
      have t0 := hx.cell T0.out
      have rR := rangeAt_ext RR.out hx
      have kk := k1.trans hx
      by_cases hlt : k < n
      · obtain ⟨b, off, rfl, hry, hoky⟩ := (HV.out wr kk).at' hlt
        change wr.rangeAt _ _ (Tree.nd NS k).cells at hry
        replace hoky : (Tree.nd NS k).Ok := hoky
        have hF := fun h => idx_first (NS := NS) (r := r) (k := k) (by omega) h hnot
        have hN := fun e => Tree.not_take_succ (T := NS) (j := k) (r := r) (by omega) hnot e
        have g1 : (k : Int) < n := by omega
        generalize Tree.nd NS k = y at *
        have ry := range_root0 hry
        have hj32 : (Try.prog.info? 32).map (·.size) = some (rootC y.root).length := by rw [rootC_len hoky.1]; kernel_rfl
        by_cases hyx : y.root = r
        · have HFV : Hid (Tree.findV NS r = (k : Int)) := by
            show _ = _
            obtain ⟨h1, h2⟩ := hF hyx
            rw [findV_in HMA.out h1, h2]
          have heq := fun W => root_eql hoky.1 hr (b := true) (by simp [hyx]) W
          clear hyx hnot hF hN hry hoky
          go_wp2
          refine wp_region_quiet_lit (by kernel_rfl) (by kernel_rfl) ?_
          repeat (first | go_big_quiet_skip | (go_big_quiet_want; first | ((first | (refine quiet_load_mid 32 _ rfl _ _ rfl (rootC y.root) _ (fun W ⟨p, hp⟩ => hp ▸ rangeAt_ext ry ((Ext.refl _).drewN p)) Try.underlying32 rfl hj32 ?_) | (refine quiet_load_mid 32 _ rfl _ _ rfl (rootC r) _ (fun W ⟨p, hp⟩ => hp ▸ rangeAt_ext rR ((Ext.refl _).drewN p)) Try.underlying32 rfl hi32 ?_)); (try simp only [Act.put, List.setIfInBounds_toArray, List.set_cons_zero, List.set_cons_succ]); go_big_quiet_on) | (go_big_quiet_op; first | go_big_quiet_on | go_big_quiet_call (fail))))
          refine wpQuiet_nil ?_
          intro _ hw'
          obtain ⟨nq', hw''⟩ := hw'
          subst hw''
          go_wp2
          go_ret
          exact ⟨by rw [HFV.out]; rfl, kk.drewN _⟩
        · have heq := fun W => root_eql hoky.1 hr (b := false) (by simp [hyx]) W
          have HN := Lib.hid (hN hyx)
          clear hyx hnot hF hN hry hoky
          go_wp2
          refine wp_region_quiet_lit (by kernel_rfl) (by kernel_rfl) ?_
          repeat (first | go_big_quiet_skip | (go_big_quiet_want; first | ((first | (refine quiet_load_mid 32 _ rfl _ _ rfl (rootC y.root) _ (fun W ⟨p, hp⟩ => hp ▸ rangeAt_ext ry ((Ext.refl _).drewN p)) Try.underlying32 rfl hj32 ?_) | (refine quiet_load_mid 32 _ rfl _ _ rfl (rootC r) _ (fun W ⟨p, hp⟩ => hp ▸ rangeAt_ext rR ((Ext.refl _).drewN p)) Try.underlying32 rfl hi32 ?_)); (try simp only [Act.put, List.setIfInBounds_toArray, List.set_cons_zero, List.set_cons_succ]); go_big_quiet_on) | (go_big_quiet_op; first | go_big_quiet_on | go_big_quiet_call (fail))))
          refine wpQuiet_nil ?_
          intro _ hw'
          obtain ⟨nq', hw''⟩ := hw'
          subst hw''
          go_wp2
          go_roundw
          case rel => exact ⟨k + 1, by omega, by go_num, HN.out, hx.drewN _⟩
          case measure => simp [intOf]; omega
      · obtain rfl : n = k := by omega
        have HFV : Hid (Tree.findV NS r = -1) := findV_out (by rwa [List.take_of_length_le (by rw [roots_len, hlen]; exact Nat.le_refl _)] at hnot)
        clear hnot
        go_wp2
        go_ret
        exact ⟨by rw [HFV.out]; rfl, kk⟩
end Go.Proofs.Ytoifhpcpahfddaa
