/- The document's answer for layer 6: May, is, Above. -/
import Derived.Test.YtjhhfininnlkfaaTree
namespace Go.Proofs.Ytjhhfininnlkfaa
open Go.RowKit Go.WideShapes Go.ChangeShapes
set_option linter.unusedVariables false
set_option linter.unusedSimpArgs false





namespace Tree
theorem may_no {T : List Node} {i : Nat} (hi : i < T.length) (h : fitsV T i = false) : mayV T = false := by
  cases hm : mayV T with
  | false => rfl
  | true => have := (mayV_iff.1 hm).2.2.1 i hi; rw [h] at this; cases this
theorem may_twice {T : List Node} {j k : Nat} (hj : j < k) (hk : k < T.length) (h : (nd T j).root = (nd T k).root) : mayV T = false := by
  cases hm : mayV T with
  | false => rfl
  | true =>
    have hn := (mayV_iff.1 hm).2.2.2
    have h1 := roots_get (T := T) (i := j) (by omega)
    have h2 := roots_get (T := T) (i := k) hk
    rw [h, ← h2] at h1
    have := (List.getElem?_inj (by simp [roots]; omega) hn).1 h1
    omega
theorem take_nodup {T : List Node} {k : Nat} (hk : k < T.length) (hn : ((roots T).take k).Nodup) (h : (nd T k).root ∉ (roots T).take k) : ((roots T).take (k + 1)).Nodup := by
  rw [List.take_add_one, roots_get hk]
  simp only [Option.toList_some]
  exact List.nodup_append.2 ⟨hn, by simp, fun a ha b hb e => h (by simp at hb; rw [← hb, ← e]; exact ha)⟩
theorem not_take_succ {T : List Node} {j : Nat} {r : List Int} (hj : j < T.length) (h : r ∉ (roots T).take j) (e : (nd T j).root ≠ r) : r ∉ (roots T).take (j + 1) := by
  rw [List.take_add_one, roots_get hj]
  simp only [Option.toList_some, List.mem_append, List.mem_singleton]
  exact fun g => g.elim h (fun g => e g.symm)
theorem may_all {T : List Node} (hf : ∀ i, i < T.length → fitsV T i = true) (hn : ((roots T).take T.length).Nodup) : mayV T = (decide (0 < T.length) && decide (T.length ≤ 12)) := by
  rw [List.take_of_length_le (by simp [roots])] at hn
  unfold mayV
  rw [decide_eq_true hn, Bool.and_true]
  have : (List.range T.length).all (fitsV T) = true := List.all_eq_true.2 (fun i hi => hf i (List.mem_range.1 hi))
  rw [this, Bool.and_true]
end Tree
set_option maxRecDepth 100000 in
set_option maxHeartbeats 4000000 in
theorem rmay_any (A : Option Addr) (n c : Nat) (NS : List Node) (w : World) (h : NL w A n c NS) :
    Calls Try.prog 35 #[.agg #[.slice A n c]] w fun e w' => e = .returned (.bool (Tree.mayV NS)) ∧ Ext w w' := by
  have hlen := h.len
  have hroom := h.row.room
  have HV := Lib.hid (fun W (k : Ext w W) => h.ext k)
  clear h
  go_enter Try.func35, Try.ntmps35
  go_wp2
  obtain ⟨w1, hw1⟩ : ∃ w1, w.alloc (.cells #[.slice A n c] 24) = w1 := ⟨_, rfl⟩
  have t1 : w1.cell? ⟨w.heap.size, 0, none⟩ = some (.slice A n c) := by rw [← hw1]; simp
  have k1 : Ext w w1 := by rw [← hw1]; exact (by repeat (first | assumption | exact Ext.refl _ | refine Ext.alloc ?_ _ | refine Ext.drew ?_ | refine Ext.drewN ?_ _ | refine Ext.setCell ?_ (by first | (simp; done) | omega | (simp; omega)) _ | refine Ext.trans (by assumption) ?_))
  rw [hw1]
  clear hw1
  have T1 := Lib.hid t1
  clear t1
  go_loopw [3, 4, 5] (fun i' _ _ wr => ∃ k : Nat, k ≤ n ∧ i' = .int .i64 k ∧ (∀ i, i < k → Tree.fitsV NS i = true) ∧ ((Tree.roots NS).take k).Nodup ∧ Ext w1 wr) (fun i' _ _ _ => n - (intOf i').toNat)
  case atStart => exact ⟨0, Nat.zero_le _, rfl, fun i hi => absurd hi (Nat.not_lt_zero _), by simp, Ext.refl _⟩
  case round =>
    obtain ⟨k, hk, rfl, hfi, hnd, kb⟩ := hrel
    have kr := k1.trans kb
    have tt := kb.cell T1.out
    have tl := lt_of_cell tt
    by_cases hlt : k < n
    · have HFI := Lib.hid hfi
      have HND := Lib.hid hnd
      clear hfi hnd
      obtain ⟨b, off, rfl, hr, hok⟩ := (HV.out wr kr).at' hlt
      change wr.rangeAt _ _ (Tree.nd NS k).cells at hr
      replace hok : (Tree.nd NS k).Ok := hok
      have hmn := Lib.hid (fun h => Tree.may_no (T := NS) (i := k) (by omega) h)
      have hf : Tree.fitsV NS k = if k = 0 then decide ((Tree.nd NS k).par = -1) && decide ((Tree.nd NS k).slot ≤ 1099511627776) else decide (0 ≤ (Tree.nd NS k).par) && decide ((Tree.nd NS k).par < k) && decide ((Tree.nd NS k).slot ≤ 1099511627776) && decide ((Tree.nd NS (Tree.nd NS k).par.toNat).slot < (Tree.nd NS k).slot) := by
        unfold Tree.fitsV
        by_cases h0 : k = 0
        · subst h0; rfl
        · rw [if_neg h0, if_neg h0]
      obtain ⟨x, ex⟩ : ∃ x, Tree.nd NS k = x := ⟨_, rfl⟩
      rw [ex] at hr hok hf
      have HXE := Lib.hid ex
      clear ex
      have hi35 : (Try.prog.info? 53).map (·.size) = some x.cells.length := by rw [Node.len hok]; kernel_rfl
      have gi : (k : Int) < n := by omega
      have a32 := Node.at32 hok
      have a33 := Node.at33 hok
      by_cases hs : x.slot ≤ 1099511627776
      case neg =>
        have g1 : (1099511627776 : Int) < x.slot := by omega
        have HF := Lib.hid (hmn.out (by rw [hf, decide_eq_false hs]; simp))
        clear hf hs
        go_upto_region 5 with (first | (refine wpList_load_mid rfl 53 _ rfl _ _ rfl x.cells _ (rangeAt_ext hr ((by repeat (first | assumption | exact Ext.refl _ | refine Ext.alloc ?_ _ | refine Ext.drew ?_ | refine Ext.drewN ?_ _ | refine Ext.setCell ?_ (by first | (simp; done) | omega | (simp; omega)) _ | refine Ext.trans (by assumption) ?_)))) Try.underlying53 rfl hi35 ?_) | (refine wpList_store_mid rfl 53 _ _ rfl _ 0 x.cells.toArray rfl rfl (there_at (by simp) _ (by rw [List.size_toArray, Node.len hok]; decide)) (by rw [List.size_toArray]; exact hi35) (all_oneCell_toArray (Node.one x)) ?_; rw [List.toList_toArray, setCells_at (by simp) (by rw [Node.len hok]; rfl)]))
        go_wp2
        go_ret
        exact ⟨by rw [HF.out]; rfl, (by repeat (first | assumption | exact Ext.refl _ | refine Ext.alloc ?_ _ | refine Ext.drew ?_ | refine Ext.drewN ?_ _ | refine Ext.setCell ?_ (by first | (simp; done) | omega | (simp; omega)) _ | refine Ext.trans (by assumption) ?_))⟩
      have g1 : decide ((1099511627776 : Int) < x.slot) = false := decide_eq_false (by omega)
      by_cases h0 : k = 0
      · have g0 : ((k : Int) == 0) = true := by simp; omega
        have g00 : decide ((0 : Int) < k) = false := decide_eq_false (by omega)
        have g01 : decide (0 < k) = false := decide_eq_false (by omega)
        rw [if_pos h0] at hf
        by_cases hp : x.par = -1
        case neg =>
          have g2 : (x.par == -1) = false := by simp [hp]
          have g3 : (x.par != -1) = true := by simp [hp]
          have HF := Lib.hid (hmn.out (by rw [hf, decide_eq_false hp]; simp))
          clear hf hs h0 hp
          go_upto_region 5 with (first | (refine wpList_load_mid rfl 53 _ rfl _ _ rfl x.cells _ (rangeAt_ext hr ((by repeat (first | assumption | exact Ext.refl _ | refine Ext.alloc ?_ _ | refine Ext.drew ?_ | refine Ext.drewN ?_ _ | refine Ext.setCell ?_ (by first | (simp; done) | omega | (simp; omega)) _ | refine Ext.trans (by assumption) ?_)))) Try.underlying53 rfl hi35 ?_) | (refine wpList_store_mid rfl 53 _ _ rfl _ 0 x.cells.toArray rfl rfl (there_at (by simp) _ (by rw [List.size_toArray, Node.len hok]; decide)) (by rw [List.size_toArray]; exact hi35) (all_oneCell_toArray (Node.one x)) ?_; rw [List.toList_toArray, setCells_at (by simp) (by rw [Node.len hok]; rfl)]))
          go_wp2
          go_ret
          exact ⟨by rw [HF.out]; rfl, (by repeat (first | assumption | exact Ext.refl _ | refine Ext.alloc ?_ _ | refine Ext.drew ?_ | refine Ext.drewN ?_ _ | refine Ext.setCell ?_ (by first | (simp; done) | omega | (simp; omega)) _ | refine Ext.trans (by assumption) ?_))⟩
        have g2 : (x.par != -1) = false := by simp [hp]
        have HFK := Lib.hid (show Tree.fitsV NS k = true by rw [hf, decide_eq_true hp, decide_eq_true hs]; rfl)
        clear hf hs h0 hp
        go_upto_region 5 with (first | (refine wpList_load_mid rfl 53 _ rfl _ _ rfl x.cells _ (rangeAt_ext hr ((by repeat (first | assumption | exact Ext.refl _ | refine Ext.alloc ?_ _ | refine Ext.drew ?_ | refine Ext.drewN ?_ _ | refine Ext.setCell ?_ (by first | (simp; done) | omega | (simp; omega)) _ | refine Ext.trans (by assumption) ?_)))) Try.underlying53 rfl hi35 ?_) | (refine wpList_store_mid rfl 53 _ _ rfl _ 0 x.cells.toArray rfl rfl (there_at (by simp) _ (by rw [List.size_toArray, Node.len hok]; decide)) (by rw [List.size_toArray]; exact hi35) (all_oneCell_toArray (Node.one x)) ?_; rw [List.toList_toArray, setCells_at (by simp) (by rw [Node.len hok]; rfl)]))
        go_wp2
        refine wp_region_quiet_lit (by kernel_rfl) (by kernel_rfl) ?_
        repeat (first | go_big_quiet_skip | (go_big_quiet_want; first | ((fail); (try simp only [Act.put, List.setIfInBounds_toArray, List.set_cons_zero, List.set_cons_succ]); go_big_quiet_on) | (go_big_quiet_op; first | go_big_quiet_on | go_big_quiet_call (fail))))
        refine wpQuiet_nil ?_
        intro _ hw'
        obtain ⟨nq', hw''⟩ := hw'
        subst hw''
        have ko : Ext wr ((wr.alloc (.cells x.cells.toArray 53)).drewN nq') := (by repeat (first | assumption | exact Ext.refl _ | refine Ext.alloc ?_ _ | refine Ext.drew ?_ | refine Ext.drewN ?_ _ | refine Ext.setCell ?_ (by first | (simp; done) | omega | (simp; omega)) _ | refine Ext.trans (by assumption) ?_))
        have hR : ((wr.alloc (.cells x.cells.toArray 53)).drewN nq').rangeAt wr.heap.size 0 x.cells := rangeAt_ext (range_at (w := wr) x.cells 53 rfl) ((Ext.refl _).drewN _)
        generalize (wr.alloc (.cells x.cells.toArray 53)).drewN nq' = wo at *
        replace tt := ko.cell tt
        have kbo : Ext w1 wo := kb.trans ko
        replace ko := kr.trans ko
        go_wp2
        have R3 : wo.rangeAt wr.heap.size 0 (rootC x.root) := range_root0 hR
        have hi32 : (Try.prog.info? 38).map (·.size) = some (rootC x.root).length := by rw [rootC_len hok.1]; kernel_rfl
        go_loopw [5] (fun j' wq => ∃ j : Nat, j ≤ k ∧ j' = .int .i64 j ∧ x.root ∉ (Tree.roots NS).take j ∧ Ext wo wq) (fun j' _ => k - (intOf j').toNat)
        case atStart => exact ⟨0, Nat.zero_le _, rfl, by simp, Ext.refl _⟩
        case round =>
          obtain ⟨j, hj, rfl, hnot, hxq⟩ := hrel
          have kq := ko.trans hxq
          replace tt := hxq.cell tt
          by_cases hjk : j < k
          · obtain ⟨b', off', e', hry, hoky⟩ := (HV.out _ kq).at' (i := j) (by omega)
            obtain ⟨rfl, rfl⟩ : b = b' ∧ off = off' := by simpa using e'
            change World.rangeAt _ _ _ (Tree.nd NS j).cells at hry
            replace hoky : (Tree.nd NS j).Ok := hoky
            have HTW := Lib.hid (fun h => Tree.may_twice (T := NS) (j := j) (k := k) hjk (by omega) h)
            have HNT := Lib.hid (fun e => Tree.not_take_succ (T := NS) (j := j) (r := x.root) (by omega) hnot e)
            rw [HXE.out] at HTW
            generalize Tree.nd NS j = y at *
            have ry := range_root0 hry
            have hj32 : (Try.prog.info? 38).map (·.size) = some (rootC y.root).length := by rw [rootC_len hoky.1]; kernel_rfl
            have gj : (j : Int) < n := by omega
            have gj2 : (j : Int) < k := by omega
            by_cases hyx : y.root = x.root
            · have HF := Lib.hid (HTW.out hyx)
              have heq := fun W => root_eql hoky.1 hok.1 (b := true) (by simp [hyx]) W
              clear hyx hnot HTW HNT
              go_wp2
              refine wp_region_quiet_lit (by kernel_rfl) (by kernel_rfl) ?_
              repeat (first | go_big_quiet_skip | (go_big_quiet_want; first | ((first | (refine quiet_load_mid 38 _ rfl _ _ rfl (rootC y.root) _ (fun W ⟨p, hp⟩ => hp ▸ rangeAt_ext ry ((Ext.refl _).drewN p)) Try.underlying38 rfl hj32 ?_) | (refine quiet_load_mid 38 _ rfl _ _ rfl (rootC x.root) _ (fun W ⟨p, hp⟩ => hp ▸ rangeAt_ext R3 (hxq.drewN p)) Try.underlying38 rfl hi32 ?_)); (try simp only [Act.put, List.setIfInBounds_toArray, List.set_cons_zero, List.set_cons_succ]); go_big_quiet_on) | (go_big_quiet_op; first | go_big_quiet_on | go_big_quiet_call (fail))))
              refine wpQuiet_nil ?_
              intro _ hw'
              obtain ⟨nq', hw''⟩ := hw'
              subst hw''
              go_wp2
              go_ret
              exact ⟨by rw [HF.out]; rfl, kq.drewN _⟩
            · have heq := fun W => root_eql hoky.1 hok.1 (b := false) (by simp [hyx]) W
              have HN := Lib.hid (HNT.out hyx)
              clear hyx hnot HTW HNT
              go_wp2
              refine wp_region_quiet_lit (by kernel_rfl) (by kernel_rfl) ?_
              repeat (first | go_big_quiet_skip | (go_big_quiet_want; first | ((first | (refine quiet_load_mid 38 _ rfl _ _ rfl (rootC y.root) _ (fun W ⟨p, hp⟩ => hp ▸ rangeAt_ext ry ((Ext.refl _).drewN p)) Try.underlying38 rfl hj32 ?_) | (refine quiet_load_mid 38 _ rfl _ _ rfl (rootC x.root) _ (fun W ⟨p, hp⟩ => hp ▸ rangeAt_ext R3 (hxq.drewN p)) Try.underlying38 rfl hi32 ?_)); (try simp only [Act.put, List.setIfInBounds_toArray, List.set_cons_zero, List.set_cons_succ]); go_big_quiet_on) | (go_big_quiet_op; first | go_big_quiet_on | go_big_quiet_call (fail))))
              refine wpQuiet_nil ?_
              intro _ hw'
              obtain ⟨nq', hw''⟩ := hw'
              subst hw''
              go_wp2
              go_roundw
              case rel => exact ⟨j + 1, by omega, by go_num, HN.out, hxq.drewN _⟩
              case measure => simp [intOf]; omega
          · obtain rfl : k = j := by omega
            have HNOT := Lib.hid hnot
            clear hnot
            go_wp2
            go_roundw
            case rel =>
              have H1 : ∀ i, i < k + 1 → Tree.fitsV NS i = true := fun i hi => by
                rcases Nat.lt_succ_iff_lt_or_eq.1 hi with h | rfl
                · exact HFI.out i h
                · exact HFK.out
              have H2 : ((Tree.roots NS).take (k + 1)).Nodup := Tree.take_nodup (by omega) HND.out (by rw [HXE.out]; exact HNOT.out)
              first | exact ⟨k + 1, by omega, by go_num, H1, H2, kbo.trans hxq⟩ | (refine ⟨_, _, ⟨k + 1, by omega, ?_, H1, H2, kbo.trans hxq⟩, rfl, rfl⟩; go_num)
            case measure => simp [intOf]; omega
      · have g0 : ((k : Int) == 0) = false := by simp; omega
        have g00 : decide ((0 : Int) < k) = true := decide_eq_true (by omega)
        have g01 : decide (0 < k) = true := decide_eq_true (by omega)
        rw [if_neg h0] at hf
        by_cases p0 : 0 ≤ x.par
        case neg =>
          have g2 : x.par < 0 := by omega
          have HF := Lib.hid (hmn.out (by rw [hf, decide_eq_false p0]; simp))
          clear hf hs h0 p0
          go_upto_region 5 with (first | (refine wpList_load_mid rfl 53 _ rfl _ _ rfl x.cells _ (rangeAt_ext hr ((by repeat (first | assumption | exact Ext.refl _ | refine Ext.alloc ?_ _ | refine Ext.drew ?_ | refine Ext.drewN ?_ _ | refine Ext.setCell ?_ (by first | (simp; done) | omega | (simp; omega)) _ | refine Ext.trans (by assumption) ?_)))) Try.underlying53 rfl hi35 ?_) | (refine wpList_store_mid rfl 53 _ _ rfl _ 0 x.cells.toArray rfl rfl (there_at (by simp) _ (by rw [List.size_toArray, Node.len hok]; decide)) (by rw [List.size_toArray]; exact hi35) (all_oneCell_toArray (Node.one x)) ?_; rw [List.toList_toArray, setCells_at (by simp) (by rw [Node.len hok]; rfl)]))
          go_wp2
          go_ret
          exact ⟨by rw [HF.out]; rfl, (by repeat (first | assumption | exact Ext.refl _ | refine Ext.alloc ?_ _ | refine Ext.drew ?_ | refine Ext.drewN ?_ _ | refine Ext.setCell ?_ (by first | (simp; done) | omega | (simp; omega)) _ | refine Ext.trans (by assumption) ?_))⟩
        have g2 : decide (x.par < 0) = false := decide_eq_false (by omega)
        by_cases p1 : x.par < k
        case neg =>
          have g3 : (k : Int) ≤ x.par := by omega
          have HF := Lib.hid (hmn.out (by rw [hf, decide_eq_false p1]; simp))
          clear hf hs h0 p0 p1
          go_upto_region 5 with (first | (refine wpList_load_mid rfl 53 _ rfl _ _ rfl x.cells _ (rangeAt_ext hr ((by repeat (first | assumption | exact Ext.refl _ | refine Ext.alloc ?_ _ | refine Ext.drew ?_ | refine Ext.drewN ?_ _ | refine Ext.setCell ?_ (by first | (simp; done) | omega | (simp; omega)) _ | refine Ext.trans (by assumption) ?_)))) Try.underlying53 rfl hi35 ?_) | (refine wpList_store_mid rfl 53 _ _ rfl _ 0 x.cells.toArray rfl rfl (there_at (by simp) _ (by rw [List.size_toArray, Node.len hok]; decide)) (by rw [List.size_toArray]; exact hi35) (all_oneCell_toArray (Node.one x)) ?_; rw [List.toList_toArray, setCells_at (by simp) (by rw [Node.len hok]; rfl)]))
          go_wp2
          go_ret
          exact ⟨by rw [HF.out]; rfl, (by repeat (first | assumption | exact Ext.refl _ | refine Ext.alloc ?_ _ | refine Ext.drew ?_ | refine Ext.drewN ?_ _ | refine Ext.setCell ?_ (by first | (simp; done) | omega | (simp; omega)) _ | refine Ext.trans (by assumption) ?_))⟩
        have g3 : decide ((k : Int) ≤ x.par) = false := decide_eq_false (by omega)
        obtain ⟨p, hp⟩ := Int.eq_ofNat_of_zero_le p0
        have hpi : p < k := by omega
        obtain ⟨b', off', e', hrp, hokp⟩ := (HV.out wr kr).at' (i := p) (by omega)
        obtain ⟨rfl, rfl⟩ : b = b' ∧ off = off' := by simpa using e'
        have d33 := rangeAt_head hrp (Node.at33 hokp)
        change wr.cell? _ = some (.int .u64 (Tree.nd NS p).slot) at d33
        have e : Tree.nd NS x.par.toNat = Tree.nd NS p := by rw [hp]; rfl
        rw [e] at hf
        have bl := lt_of_cell d33
        generalize (Tree.nd NS p).slot = q at d33 hf
        have gpn : (p : Int) < n := by omega
        rw [decide_eq_true p0, decide_eq_true p1, decide_eq_true hs, Bool.true_and, Bool.true_and, Bool.true_and] at hf
        rw [hp] at g2 g3 a32
        have g5 : decide (k ≤ p) = false := decide_eq_false (by omega)
        by_cases hq : q < x.slot
        case neg =>
          have g4 : (x.slot : Int) ≤ q := by omega
          have HF := Lib.hid (hmn.out (by rw [hf, decide_eq_false hq]))
          clear hf hs h0 p0 p1 hq e e' hrp hokp hp hpi
          go_upto_region 5 with (first | (refine wpList_load_mid rfl 53 _ rfl _ _ rfl x.cells _ (rangeAt_ext hr ((by repeat (first | assumption | exact Ext.refl _ | refine Ext.alloc ?_ _ | refine Ext.drew ?_ | refine Ext.drewN ?_ _ | refine Ext.setCell ?_ (by first | (simp; done) | omega | (simp; omega)) _ | refine Ext.trans (by assumption) ?_)))) Try.underlying53 rfl hi35 ?_) | (refine wpList_store_mid rfl 53 _ _ rfl _ 0 x.cells.toArray rfl rfl (there_at (by simp) _ (by rw [List.size_toArray, Node.len hok]; decide)) (by rw [List.size_toArray]; exact hi35) (all_oneCell_toArray (Node.one x)) ?_; rw [List.toList_toArray, setCells_at (by simp) (by rw [Node.len hok]; rfl)]))
          go_wp2
          refine wp_region_quiet_lit (by kernel_rfl) (by kernel_rfl) ?_
          repeat (first | go_big_quiet_skip | (go_big_quiet_want; first | ((fail); (try simp only [Act.put, List.setIfInBounds_toArray, List.set_cons_zero, List.set_cons_succ]); go_big_quiet_on) | (go_big_quiet_op; first | go_big_quiet_on | go_big_quiet_call (fail))))
          refine wpQuiet_nil ?_
          intro _ hw'
          obtain ⟨nq', hw''⟩ := hw'
          subst hw''
          go_wp2
          go_ret
          exact ⟨by rw [HF.out]; rfl, Ext.drewN ((by repeat (first | assumption | exact Ext.refl _ | refine Ext.alloc ?_ _ | refine Ext.drew ?_ | refine Ext.drewN ?_ _ | refine Ext.setCell ?_ (by first | (simp; done) | omega | (simp; omega)) _ | refine Ext.trans (by assumption) ?_))) _⟩
        have g4 : decide ((x.slot : Int) ≤ q) = false := decide_eq_false (by omega)
        have g6 : decide (x.slot ≤ q) = false := decide_eq_false (by omega)
        have g7 : ¬ (x.slot : Int) ≤ q := by omega
        have HFK := Lib.hid (show Tree.fitsV NS k = true by rw [hf, decide_eq_true hq])
        clear hf hs h0 p0 p1 hq e e' hrp hokp hp hpi
        go_upto_region 5 with (first | (refine wpList_load_mid rfl 53 _ rfl _ _ rfl x.cells _ (rangeAt_ext hr ((by repeat (first | assumption | exact Ext.refl _ | refine Ext.alloc ?_ _ | refine Ext.drew ?_ | refine Ext.drewN ?_ _ | refine Ext.setCell ?_ (by first | (simp; done) | omega | (simp; omega)) _ | refine Ext.trans (by assumption) ?_)))) Try.underlying53 rfl hi35 ?_) | (refine wpList_store_mid rfl 53 _ _ rfl _ 0 x.cells.toArray rfl rfl (there_at (by simp) _ (by rw [List.size_toArray, Node.len hok]; decide)) (by rw [List.size_toArray]; exact hi35) (all_oneCell_toArray (Node.one x)) ?_; rw [List.toList_toArray, setCells_at (by simp) (by rw [Node.len hok]; rfl)]))
        go_wp2
        refine wp_region_quiet_lit (by kernel_rfl) (by kernel_rfl) ?_
        repeat (first | go_big_quiet_skip | (go_big_quiet_want; first | ((fail); (try simp only [Act.put, List.setIfInBounds_toArray, List.set_cons_zero, List.set_cons_succ]); go_big_quiet_on) | (go_big_quiet_op; first | go_big_quiet_on | go_big_quiet_call (fail))))
        refine wpQuiet_nil ?_
        intro _ hw'
        obtain ⟨nq', hw''⟩ := hw'
        subst hw''
        have ko : Ext wr ((wr.alloc (.cells x.cells.toArray 53)).drewN nq') := (by repeat (first | assumption | exact Ext.refl _ | refine Ext.alloc ?_ _ | refine Ext.drew ?_ | refine Ext.drewN ?_ _ | refine Ext.setCell ?_ (by first | (simp; done) | omega | (simp; omega)) _ | refine Ext.trans (by assumption) ?_))
        have hR : ((wr.alloc (.cells x.cells.toArray 53)).drewN nq').rangeAt wr.heap.size 0 x.cells := rangeAt_ext (range_at (w := wr) x.cells 53 rfl) ((Ext.refl _).drewN _)
        generalize (wr.alloc (.cells x.cells.toArray 53)).drewN nq' = wo at *
        replace tt := ko.cell tt
        have kbo : Ext w1 wo := kb.trans ko
        replace ko := kr.trans ko
        go_wp2
        have R3 : wo.rangeAt wr.heap.size 0 (rootC x.root) := range_root0 hR
        have hi32 : (Try.prog.info? 38).map (·.size) = some (rootC x.root).length := by rw [rootC_len hok.1]; kernel_rfl
        go_loopw [5] (fun j' wq => ∃ j : Nat, j ≤ k ∧ j' = .int .i64 j ∧ x.root ∉ (Tree.roots NS).take j ∧ Ext wo wq) (fun j' _ => k - (intOf j').toNat)
        case atStart => exact ⟨0, Nat.zero_le _, rfl, by simp, Ext.refl _⟩
        case round =>
          obtain ⟨j, hj, rfl, hnot, hxq⟩ := hrel
          have kq := ko.trans hxq
          replace tt := hxq.cell tt
          by_cases hjk : j < k
          · obtain ⟨b', off', e', hry, hoky⟩ := (HV.out _ kq).at' (i := j) (by omega)
            obtain ⟨rfl, rfl⟩ : b = b' ∧ off = off' := by simpa using e'
            change World.rangeAt _ _ _ (Tree.nd NS j).cells at hry
            replace hoky : (Tree.nd NS j).Ok := hoky
            have HTW := Lib.hid (fun h => Tree.may_twice (T := NS) (j := j) (k := k) hjk (by omega) h)
            have HNT := Lib.hid (fun e => Tree.not_take_succ (T := NS) (j := j) (r := x.root) (by omega) hnot e)
            rw [HXE.out] at HTW
            generalize Tree.nd NS j = y at *
            have ry := range_root0 hry
            have hj32 : (Try.prog.info? 38).map (·.size) = some (rootC y.root).length := by rw [rootC_len hoky.1]; kernel_rfl
            have gj : (j : Int) < n := by omega
            have gj2 : (j : Int) < k := by omega
            by_cases hyx : y.root = x.root
            · have HF := Lib.hid (HTW.out hyx)
              have heq := fun W => root_eql hoky.1 hok.1 (b := true) (by simp [hyx]) W
              clear hyx hnot HTW HNT
              go_wp2
              refine wp_region_quiet_lit (by kernel_rfl) (by kernel_rfl) ?_
              repeat (first | go_big_quiet_skip | (go_big_quiet_want; first | ((first | (refine quiet_load_mid 38 _ rfl _ _ rfl (rootC y.root) _ (fun W ⟨p, hp⟩ => hp ▸ rangeAt_ext ry ((Ext.refl _).drewN p)) Try.underlying38 rfl hj32 ?_) | (refine quiet_load_mid 38 _ rfl _ _ rfl (rootC x.root) _ (fun W ⟨p, hp⟩ => hp ▸ rangeAt_ext R3 (hxq.drewN p)) Try.underlying38 rfl hi32 ?_)); (try simp only [Act.put, List.setIfInBounds_toArray, List.set_cons_zero, List.set_cons_succ]); go_big_quiet_on) | (go_big_quiet_op; first | go_big_quiet_on | go_big_quiet_call (fail))))
              refine wpQuiet_nil ?_
              intro _ hw'
              obtain ⟨nq', hw''⟩ := hw'
              subst hw''
              go_wp2
              go_ret
              exact ⟨by rw [HF.out]; rfl, kq.drewN _⟩
            · have heq := fun W => root_eql hoky.1 hok.1 (b := false) (by simp [hyx]) W
              have HN := Lib.hid (HNT.out hyx)
              clear hyx hnot HTW HNT
              go_wp2
              refine wp_region_quiet_lit (by kernel_rfl) (by kernel_rfl) ?_
              repeat (first | go_big_quiet_skip | (go_big_quiet_want; first | ((first | (refine quiet_load_mid 38 _ rfl _ _ rfl (rootC y.root) _ (fun W ⟨p, hp⟩ => hp ▸ rangeAt_ext ry ((Ext.refl _).drewN p)) Try.underlying38 rfl hj32 ?_) | (refine quiet_load_mid 38 _ rfl _ _ rfl (rootC x.root) _ (fun W ⟨p, hp⟩ => hp ▸ rangeAt_ext R3 (hxq.drewN p)) Try.underlying38 rfl hi32 ?_)); (try simp only [Act.put, List.setIfInBounds_toArray, List.set_cons_zero, List.set_cons_succ]); go_big_quiet_on) | (go_big_quiet_op; first | go_big_quiet_on | go_big_quiet_call (fail))))
              refine wpQuiet_nil ?_
              intro _ hw'
              obtain ⟨nq', hw''⟩ := hw'
              subst hw''
              go_wp2
              go_roundw
              case rel => exact ⟨j + 1, by omega, by go_num, HN.out, hxq.drewN _⟩
              case measure => simp [intOf]; omega
          · obtain rfl : k = j := by omega
            have HNOT := Lib.hid hnot
            clear hnot
            go_wp2
            go_roundw
            case rel =>
              have H1 : ∀ i, i < k + 1 → Tree.fitsV NS i = true := fun i hi => by
                rcases Nat.lt_succ_iff_lt_or_eq.1 hi with h | rfl
                · exact HFI.out i h
                · exact HFK.out
              have H2 : ((Tree.roots NS).take (k + 1)).Nodup := Tree.take_nodup (by omega) HND.out (by rw [HXE.out]; exact HNOT.out)
              first | exact ⟨k + 1, by omega, by go_num, H1, H2, kbo.trans hxq⟩ | (refine ⟨_, _, ⟨k + 1, by omega, ?_, H1, H2, kbo.trans hxq⟩, rfl, rfl⟩; go_num)
            case measure => simp [intOf]; omega
    · obtain rfl : n = k := by omega
      have hm : Tree.mayV NS = (decide (0 < n) && decide (n ≤ 12)) := by
        rw [← hlen]
        exact Tree.may_all (fun i hi => hfi i (by omega)) (by rw [hlen]; exact hnd)
      have HMV := Lib.hid hm
      clear hm hfi hnd
      by_cases n1 : 0 < n
      · have g1 : (1 : Int) ≤ n := by omega
        by_cases n2 : n ≤ 12
        · have g2 : (n : Int) ≤ 12 := by omega
          go_wp2
          go_ret
          exact ⟨by rw [HMV.out, decide_eq_true n1, decide_eq_true n2]; rfl, kr⟩
        · have g2 : ¬ (n : Int) ≤ 12 := by omega
          go_wp2
          go_ret
          exact ⟨by rw [HMV.out, decide_eq_true n1, decide_eq_false n2]; rfl, kr⟩
      · have g1 : ¬ (1 : Int) ≤ n := by omega
        go_wp2
        go_ret
        exact ⟨by rw [HMV.out, decide_eq_false n1]; rfl, kr⟩
theorem rmay_is (A : Option Addr) (n c : Nat) (NS : List Node) (b : Bool) (hb : Tree.mayV NS = b) (w : World) (h : NL w A n c NS) :
    Calls Try.prog 35 #[.agg #[.slice A n c]] w fun e w' => e = .returned (.bool b) ∧ Ext w w' := by subst hb; exact rmay_any A n c NS w h
set_option maxHeartbeats 1000000 in
theorem ris_any (A : Option Addr) (n c : Nat) (NS : List Node) (i : Int) (w : World) (h : NL w A n c NS) :
    Calls Try.prog 51 #[.agg #[.slice A n c], .int .i64 i] w fun e w' => e = .returned (.bool (Tree.isV NS i)) ∧ Ext w w' := by
  have hlen := h.len
  have HM := Lib.hid (fun b (hb : Tree.mayV NS = b) W (k : Ext w W) => rmay_is A n c NS b hb W (h.ext k))
  clear h
  unfold Tree.isV
  rw [hlen]
  cases hm : Tree.mayV NS with
  | false =>
    rw [Bool.false_and]
    go_enter Try.func51, Try.ntmps51
    go_wp2_with fail
    refine (HM.out false hm _ ((by repeat (first | assumption | exact Ext.refl _ | refine Ext.alloc ?_ _ | refine Ext.drew ?_ | refine Ext.drewN ?_ _ | refine Ext.setCell ?_ (by first | (simp; done) | omega | (simp; omega)) _ | refine Ext.trans (by assumption) ?_)))).mono ?_
    rintro e w1 ⟨rfl, hx1⟩
    have k1 : Ext w w1 := Ext.trans ((by repeat (first | assumption | exact Ext.refl _ | refine Ext.alloc ?_ _ | refine Ext.drew ?_ | refine Ext.drewN ?_ _ | refine Ext.setCell ?_ (by first | (simp; done) | omega | (simp; omega)) _ | refine Ext.trans (by assumption) ?_))) hx1
    have t0 := hx1.cell (p := ⟨w.heap.size, 0, none⟩) (v := .slice A n c) (by first | (simp; done) | (simp (maxDischargeDepth := 7) [go_sem]; done))
    go_wp2
    go_ret
    exact ⟨by first | rfl | (show _ = Ending.returned (Value.bool false); rw [← g1]; rfl), k1⟩
  | true =>
    rw [Bool.true_and]
    by_cases h0 : 0 ≤ i
    · by_cases h1 : i < n
      · rw [decide_eq_true ⟨h0, h1⟩]
        go_enter Try.func51, Try.ntmps51
        go_wp2_with fail
        refine (HM.out true hm _ ((by repeat (first | assumption | exact Ext.refl _ | refine Ext.alloc ?_ _ | refine Ext.drew ?_ | refine Ext.drewN ?_ _ | refine Ext.setCell ?_ (by first | (simp; done) | omega | (simp; omega)) _ | refine Ext.trans (by assumption) ?_)))).mono ?_
        rintro e w1 ⟨rfl, hx1⟩
        have k1 : Ext w w1 := Ext.trans ((by repeat (first | assumption | exact Ext.refl _ | refine Ext.alloc ?_ _ | refine Ext.drew ?_ | refine Ext.drewN ?_ _ | refine Ext.setCell ?_ (by first | (simp; done) | omega | (simp; omega)) _ | refine Ext.trans (by assumption) ?_))) hx1
        have t0 := hx1.cell (p := ⟨w.heap.size, 0, none⟩) (v := .slice A n c) (by first | (simp; done) | (simp (maxDischargeDepth := 7) [go_sem]; done))
        go_wp2
        go_ret
        exact ⟨by first | rfl | (show _ = Ending.returned (Value.bool false); rw [← g1]; rfl), k1⟩
      · rw [decide_eq_false (fun g => h1 g.2)]
        have g1 : decide (i < (n : Int)) = false := decide_eq_false h1
        go_enter Try.func51, Try.ntmps51
        go_wp2_with fail
        refine (HM.out true hm _ ((by repeat (first | assumption | exact Ext.refl _ | refine Ext.alloc ?_ _ | refine Ext.drew ?_ | refine Ext.drewN ?_ _ | refine Ext.setCell ?_ (by first | (simp; done) | omega | (simp; omega)) _ | refine Ext.trans (by assumption) ?_)))).mono ?_
        rintro e w1 ⟨rfl, hx1⟩
        have k1 : Ext w w1 := Ext.trans ((by repeat (first | assumption | exact Ext.refl _ | refine Ext.alloc ?_ _ | refine Ext.drew ?_ | refine Ext.drewN ?_ _ | refine Ext.setCell ?_ (by first | (simp; done) | omega | (simp; omega)) _ | refine Ext.trans (by assumption) ?_))) hx1
        have t0 := hx1.cell (p := ⟨w.heap.size, 0, none⟩) (v := .slice A n c) (by first | (simp; done) | (simp (maxDischargeDepth := 7) [go_sem]; done))
        go_wp2
        go_ret
        exact ⟨by first | rfl | (show _ = Ending.returned (Value.bool false); rw [← g1]; rfl), k1⟩
    · rw [decide_eq_false (fun g => h0 g.1)]
      go_enter Try.func51, Try.ntmps51
      go_wp2_with fail
      refine (HM.out true hm _ ((by repeat (first | assumption | exact Ext.refl _ | refine Ext.alloc ?_ _ | refine Ext.drew ?_ | refine Ext.drewN ?_ _ | refine Ext.setCell ?_ (by first | (simp; done) | omega | (simp; omega)) _ | refine Ext.trans (by assumption) ?_)))).mono ?_
      rintro e w1 ⟨rfl, hx1⟩
      have k1 : Ext w w1 := Ext.trans ((by repeat (first | assumption | exact Ext.refl _ | refine Ext.alloc ?_ _ | refine Ext.drew ?_ | refine Ext.drewN ?_ _ | refine Ext.setCell ?_ (by first | (simp; done) | omega | (simp; omega)) _ | refine Ext.trans (by assumption) ?_))) hx1
      have t0 := hx1.cell (p := ⟨w.heap.size, 0, none⟩) (v := .slice A n c) (by first | (simp; done) | (simp (maxDischargeDepth := 7) [go_sem]; done))
      go_wp2
      go_ret
      exact ⟨by first | rfl | (show _ = Ending.returned (Value.bool false); rw [← g1]; rfl), k1⟩
theorem ris_is (A : Option Addr) (n c : Nat) (NS : List Node) (i : Int) (b : Bool) (hb : Tree.isV NS i = b) (w : World) (h : NL w A n c NS) :
    Calls Try.prog 51 #[.agg #[.slice A n c], .int .i64 i] w fun e w' => e = .returned (.bool b) ∧ Ext w w' := by subst hb; exact ris_any A n c NS i w h
set_option maxHeartbeats 2000000 in
theorem rabove_any (A : Option Addr) (n c : Nat) (NS : List Node) (i k : Int) (w : World) (h : NL w A n c NS) :
    Calls Try.prog 40 #[.agg #[.slice A n c], .int .i64 i, .int .i64 k] w fun e w' => e = .returned (.bool (Tree.aboveV NS i k)) ∧ Ext w w' := by
  have hlen := h.len
  have HI := Lib.hid (fun i b (hb : Tree.isV NS i = b) W (k : Ext w W) => ris_is A n c NS i b hb W (h.ext k))
  have HV := Lib.hid (fun W (k : Ext w W) => h.ext k)
  obtain ⟨bi, hbi⟩ : ∃ b, Tree.isV NS i = b := ⟨_, rfl⟩
  obtain ⟨bk, hbk⟩ : ∃ b, Tree.isV NS k = b := ⟨_, rfl⟩
  by_cases hok : bi = true ∧ bk = true
  · obtain ⟨rfl, rfl⟩ := hok
    have hm : Tree.mayV NS = true := by unfold Tree.isV at hbi; revert hbi; cases Tree.mayV NS <;> simp
    have ri : 0 ≤ i ∧ i < n := by unfold Tree.isV at hbi; rw [hm, hlen] at hbi; simpa using hbi
    have rk : 0 ≤ k ∧ k < n := by unfold Tree.isV at hbk; rw [hm, hlen] at hbk; simpa using hbk
    obtain ⟨i, rfl⟩ := Int.eq_ofNat_of_zero_le ri.1
    obtain ⟨k, rfl⟩ := Int.eq_ofNat_of_zero_le rk.1
    have hi : i < n := by omega
    have hk : k < n := by omega
    have HR := Lib.hid (Tree.above_eq hm (i := i) (k := k) (by omega) (by omega))
    have HMA := Lib.hid hm
    clear h ri rk hm
    go_enter Try.func40, Try.ntmps40
    go_wp2_with fail
    refine (HI.out _ true hbi _ ((by repeat (first | assumption | exact Ext.refl _ | refine Ext.alloc ?_ _ | refine Ext.drew ?_ | refine Ext.drewN ?_ _ | refine Ext.setCell ?_ (by first | (simp; done) | omega | (simp; omega)) _ | refine Ext.trans (by assumption) ?_)))).mono ?_
    rintro e w1 ⟨rfl, hx1⟩
    have k1 : Ext w w1 := Ext.trans ((by repeat (first | assumption | exact Ext.refl _ | refine Ext.alloc ?_ _ | refine Ext.drew ?_ | refine Ext.drewN ?_ _ | refine Ext.setCell ?_ (by first | (simp; done) | omega | (simp; omega)) _ | refine Ext.trans (by assumption) ?_))) hx1
    have t0 := hx1.cell (p := ⟨w.heap.size, 0, none⟩) (v := .slice A n c) (by first | (simp; done) | (simp (maxDischargeDepth := 7) [go_sem]; done))
    go_wp2_with fail
    refine (HI.out _ true hbk _ k1).mono ?_
    rintro e w2 ⟨rfl, hx2⟩
    have k2 : Ext w w2 := k1.trans hx2
    replace t0 := hx2.cell t0
    clear HI hbi hbk
    go_wp2
    have T0 := Lib.hid t0
    clear t0
    go_loopw [2] (fun k' wr => ∃ j : Nat, j < n ∧ k' = .int .i64 j ∧ (i ∈ Tree.line NS k ↔ i ∈ Tree.line NS j) ∧ Ext w2 wr) (fun k' _ => (intOf k').toNat)
    case atStart => exact ⟨k, hk, rfl, Iff.rfl, Ext.refl _⟩
    case round =>
      obtain ⟨j, hj, rfl, hin, hxr⟩ := hrel
      have kr := k2.trans hxr
      have tt := hxr.cell T0.out
      by_cases hij : i < j
      · obtain ⟨_, _, hp⟩ := Tree.par_pos HMA.out (i := j) (by omega) (by omega)
        have hu := Tree.up_lt NS (k := j) (by omega)
        have hin2 : i ∈ Tree.line NS k ↔ i ∈ Tree.line NS (Tree.up NS j) := by
          rw [hin, Tree.mem_pos (by omega)]
          exact ⟨fun h => h.elim (fun e => by omega) id, .inr⟩
        obtain ⟨b, off, rfl, hr, hok⟩ := (HV.out _ kr).at' hj
        have d0 := rangeAt_head hr (Node.at32 hok)
        change World.cell? _ _ = some (.int .i64 (Tree.nd NS j).par) at d0
        rw [hp] at d0
        have HU := Lib.hid hin2
        have gj : (j : Int) < n := by omega
        have gij : (i : Int) < j := by omega
        generalize Tree.up NS j = u at *
        clear hin hin2 hp hr hok
        go_wp2
        go_roundw
        case rel => exact ⟨u, by omega, rfl, HU.out, by assumption⟩
        case measure => simp [intOf]; omega
      · have HB : Hid (Tree.aboveV NS i k = decide (j = i)) := by
          show _ = _
          rw [HR.out, decide_eq_decide, hin]
          constructor
          · intro h; have := Tree.mem_le h; omega
          · rintro rfl; exact Tree.mem_self _ _
        have gij : decide ((i : Int) < j) = false := decide_eq_false (by omega)
        have gij2 : decide (i < j) = false := decide_eq_false (by omega)
        clear hin
        by_cases e : j = i
        · have ge : ((j : Int) == i) = true := by simp; omega
          have HE := Lib.hid e
          clear e
          go_wp2
          go_ret
          exact ⟨by rw [HB.out, decide_eq_true HE.out]; rfl, kr⟩
        · have ge : ((j : Int) == i) = false := by simp; omega
          have HE := Lib.hid e
          clear e
          go_wp2
          go_ret
          exact ⟨by rw [HB.out, decide_eq_false HE.out]; rfl, kr⟩
  · have hF : Tree.aboveV NS i k = false := by
      unfold Tree.aboveV
      rw [hbi, hbk]
      cases bi <;> cases bk <;> simp at hok ⊢
    rw [hF]
    clear h
    go_enter Try.func40, Try.ntmps40
    go_wp2_with fail
    refine (HI.out _ bi hbi _ ((by repeat (first | assumption | exact Ext.refl _ | refine Ext.alloc ?_ _ | refine Ext.drew ?_ | refine Ext.drewN ?_ _ | refine Ext.setCell ?_ (by first | (simp; done) | omega | (simp; omega)) _ | refine Ext.trans (by assumption) ?_)))).mono ?_
    rintro e w1 ⟨rfl, hx1⟩
    have k1 : Ext w w1 := Ext.trans ((by repeat (first | assumption | exact Ext.refl _ | refine Ext.alloc ?_ _ | refine Ext.drew ?_ | refine Ext.drewN ?_ _ | refine Ext.setCell ?_ (by first | (simp; done) | omega | (simp; omega)) _ | refine Ext.trans (by assumption) ?_))) hx1
    have t0 := hx1.cell (p := ⟨w.heap.size, 0, none⟩) (v := .slice A n c) (by first | (simp; done) | (simp (maxDischargeDepth := 7) [go_sem]; done))
    go_wp2_with fail
    refine (HI.out _ bk hbk _ k1).mono ?_
    rintro e w2 ⟨rfl, hx2⟩
    have k2 : Ext w w2 := k1.trans hx2
    clear HI hbi hbk hF
    cases bi with
    | false =>
      go_wp2
      go_ret
      exact ⟨rfl, k2⟩
    | true =>
      obtain rfl : bk = false := by cases bk <;> simp at hok ⊢
      go_wp2
      go_ret
      exact ⟨rfl, k2⟩
theorem rabove_is (A : Option Addr) (n c : Nat) (NS : List Node) (i k : Int) (b : Bool) (hb : Tree.aboveV NS i k = b) (w : World) (h : NL w A n c NS) :
    Calls Try.prog 40 #[.agg #[.slice A n c], .int .i64 i, .int .i64 k] w fun e w' => e = .returned (.bool b) ∧ Ext w w' := by subst hb; exact rabove_any A n c NS i k w h
end Go.Proofs.Ytjhhfininnlkfaa
