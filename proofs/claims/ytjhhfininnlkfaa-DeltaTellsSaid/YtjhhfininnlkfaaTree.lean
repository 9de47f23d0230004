/- The contracts of layer 6 (tree): index, fits, May, Find. -/
import Derived.Test.YtjhhfininnlkfaaTreeV
import Derived.Test.YtjhhfininnlkfaaMapR
import Derived.Deep.Cut
import Derived.Deep.RegionHeld3
namespace Go.Proofs.Ytjhhfininnlkfaa
open Go.RowKit Go.WideShapes Go.ChangeShapes
set_option linter.unusedVariables false
set_option linter.unusedSimpArgs false






theorem range_root0 {w : World} {b o : Nat} {x : Node} (h : w.rangeAt b o x.cells) : w.rangeAt b o (rootC x.root) := rangeAt_part (xs := []) (zs := [Value.int .i64 x.par, Value.int .u64 x.slot, Value.int .u64 x.just]) (k := 0) h rfl
def IMapAt (w : World) (B : Nat) (NS : List Node) (k : Nat) : Prop := ∃ D, IMap w B ((Tree.roots NS).take k) D
theorem roots_ok {w : World} {A : Option Addr} {n c : Nat} {NS : List Node} (h : NL w A n c NS) : ∀ s ∈ Tree.roots NS, RootOk s := fun s hs => by
  obtain ⟨x, hx, rfl⟩ := List.mem_map.1 hs
  exact (h.ok x hx).1
theorem roots_len (NS : List Node) : (Tree.roots NS).length = NS.length := by simp [Tree.roots]
theorem roots_take {NS : List Node} {k : Nat} (hk : k < NS.length) : (Tree.roots NS).take (k + 1) = (Tree.roots NS).take k ++ [(Tree.nd NS k).root] := by
  rw [List.take_add_one, Tree.roots_get hk]; rfl
set_option maxHeartbeats 1000000 in
theorem index_any (A : Option Addr) (n c : Nat) (NS : List Node) (w : World) (h : NL w A n c NS) :
    Calls Try.prog 31 #[.slice A n c] w fun e w' => (∃ B D, e = .returned (.tuple #[.map (some B), .bool (decide (Tree.roots NS).Nodup)]) ∧ IMap w' B (Tree.roots NS) D ∧ w.heap.size ≤ B) ∧ Ext w w' := by
  have hlen := h.len
  have hroom := h.row.room
  have HR := Lib.hid (roots_ok h)
  have HV := Lib.hid (fun W (k : Ext w W) => h.ext k)
  have hmm := @run_makeMap Try.prog
  clear h
  go_enter Try.func31, Try.ntmps31
  go_wp2
  have M0 : IMapAt (w.alloc (.map #[] 0)) w.heap.size NS 0 := ⟨_, IMap.made w⟩
  go_loopw [5, 6, 10] (fun _ _ i wr => ∃ k : Nat, k ≤ n ∧ i = .int .i64 k ∧ IMapAt wr w.heap.size NS k ∧ Ext w wr) (fun _ _ i _ => n - (intOf i).toNat)
  case atStart => exact ⟨0, Nat.zero_le _, rfl, M0, (by repeat (first | assumption | exact Ext.refl _ | refine Ext.alloc ?_ _ | refine Ext.drew ?_ | refine Ext.drewN ?_ _ | refine Ext.setCell ?_ (by first | (simp; done) | omega | (simp; omega)) _ | refine Ext.trans (by assumption) ?_))⟩
  case round =>
    obtain ⟨k, hk, rfl, ⟨D, M⟩, hx⟩ := hrel
    clear M0
    by_cases hlt : k < n
    · obtain ⟨b, off, rfl, hr, hok⟩ := (HV.out wr hx).at' hlt
      have hrk := Lib.hid (roots_take (NS := NS) (k := k) (by omega))
      change wr.rangeAt _ _ (Tree.nd NS k).cells at hr
      replace hok : (Tree.nd NS k).Ok := hok
      generalize Tree.nd NS k = x at *
      have hi35 : (Try.prog.info? 53).map (·.size) = some x.cells.length := by rw [Node.len hok]; kernel_rfl
      have hi32 : (Try.prog.info? 38).map (·.size) = some (rootC x.root).length := by rw [rootC_len hok.1]; kernel_rfl
      have hl : ((Tree.roots NS).take k).length = k := by rw [List.length_take, roots_len]; omega
      have HL := Lib.hid hl
      have hown := M.own
      rw [hl] at hown
      have HM := Lib.hid M
      have R3 := range_root0 (range_at (w := wr) (B := wr.heap.size) x.cells 53 rfl)
      have g1 : (k : Int) < n := by omega
      have hwf : (Lit.int .i64 (k : Int)).wf = true := wf_i64 (by omega) (by omega)
      have he := elemI hwf
      have hz := hx.size
      clear hl M
      go_wp2_with (first | (refine wpList_load_mid rfl 53 _ rfl _ _ rfl x.cells _ (rangeAt_ext hr ((by repeat (first | assumption | exact Ext.refl _ | refine Ext.alloc ?_ _ | refine Ext.drew ?_ | refine Ext.drewN ?_ _ | refine Ext.setCell ?_ (by first | (simp; done) | omega | (simp; omega)) _ | refine Ext.trans (by assumption) ?_)))) Try.underlying53 rfl hi35 ?_) | (refine wpList_store_mid rfl 53 _ _ rfl _ 0 x.cells.toArray rfl rfl (there_at (by simp) _ (by rw [List.size_toArray, Node.len hok]; decide)) (by rw [List.size_toArray]; exact hi35) (all_oneCell_toArray (Node.one x)) ?_; rw [List.toList_toArray, setCells_at (by simp) (by rw [Node.len hok]; rfl)]) | (refine wpList_load_mid rfl 38 _ rfl _ _ rfl (rootC x.root) _ R3 Try.underlying38 rfl hi32 ?_) | (at_mapUpdate; refine wpList_mapUpdate_own _ rfl _ _ _ 60 rfl 38 3 keyLaw Try.underlying60 _ w.heap.size k D rfl (hown.alloc _) (by unfold maxLen; omega) _ _ (keyL x.root) rfl rfl (key_is hok.1) _ [] he ?_; intro w2 hown2 hgrow2))
      have hx2 : Ext w w2 := (hx.alloc _).grown hgrow2 (fun j e => by cases e; exact Nat.le_refl _)
      go_roundw
      case rel =>
        have M2 : IMapAt w2 w.heap.size NS (k + 1) := ⟨_, by
          have e := HL.out
          rw [hrk.out]
          have := HM.out.put (w' := w2) hok.1 (fun s hs => HR.out s (List.mem_of_mem_take hs)) (by rw [e]; exact hown2)
          exact this⟩
        first | exact ⟨k + 1, by omega, by go_num, M2, hx2⟩ | (refine ⟨_, _, ⟨k + 1, by omega, ?_, M2, hx2⟩, rfl, rfl⟩; go_num)
      case measure => simp [intOf]; omega
    · have e : k = n := by omega
      subst e
      have hl : (Tree.roots NS).take k = Tree.roots NS := List.take_of_length_le (by rw [roots_len]; omega)
      rw [hl] at M
      have hd : Hid (decide ((Maps.size D : Int) = k) = decide (Tree.roots NS).Nodup) := by
        show decide ((Maps.size D : Int) = k) = _
        have := M.len.2
        rw [roots_len, hlen] at this
        rw [decide_eq_decide, ← this]
        omega
      have hown := M.own
      have HM := Lib.hid M
      clear M
      go_wp2_with (at_len; refine wpList_len_own _ rfl _ 60 rfl 38 3 Try.underlying60 _ w.heap.size _ D rfl hown ?_)
      go_ret2
      exact ⟨⟨_, D, by rw [← hd.out]; first | rfl | simp, HM.out, Nat.le_refl _⟩, hx⟩
set_option maxHeartbeats 1000000 in
theorem fits_any (A : Option Addr) (n c : Nat) (NS : List Node) (i : Nat) (hi : i < n) (w : World) (h : NL w A n c NS) :
    Calls Try.prog 43 #[.slice A n c, .int .i64 i] w fun e w' => e = .returned (.bool (Tree.fitsV NS i)) ∧ Ext w w' := by
  have hlen := h.len
  have hroom := h.row.room
  have HV := Lib.hid (fun W (k : Ext w W) => h.ext k)
  obtain ⟨b, off, rfl, hr, hok⟩ := h.at' hi
  obtain ⟨x, ex⟩ : ∃ x, Tree.nd NS i = x := ⟨_, rfl⟩
  change w.rangeAt _ _ (Tree.nd NS i).cells at hr
  replace hok : (Tree.nd NS i).Ok := hok
  have hf : Tree.fitsV NS i = if i = 0 then decide (x.par = -1) && decide (x.slot ≤ 1099511627776) else decide (0 ≤ x.par) && decide (x.par < i) && decide (x.slot ≤ 1099511627776) && decide ((Tree.nd NS x.par.toNat).slot < x.slot) := by
    rw [← ex]; unfold Tree.fitsV
    by_cases h0 : i = 0
    · subst h0; rfl
    · rw [if_neg h0, if_neg h0]
  rw [hf]
  clear hf h
  rw [ex] at hr hok
  clear ex
  have hi35 : (Try.prog.info? 53).map (·.size) = some x.cells.length := by rw [Node.len hok]; kernel_rfl
  have gi : (i : Int) < n := by omega
  have a32 := Node.at32 hok
  have a33 := Node.at33 hok
  by_cases h0 : i = 0
  · rw [if_pos h0]
    have g0 : ((i : Int) == 0) = true := by simp; omega
    clear h0
    by_cases hp : x.par = -1
    · have g1 : (x.par == -1) = true := by simp [hp]
      rw [decide_eq_true hp, Bool.true_and]
      clear hp
      by_cases hs : x.slot ≤ 1099511627776
      · have g2 : (x.slot : Int) ≤ 1099511627776 := by omega
        rw [decide_eq_true hs]
        go_enter Try.func43, Try.ntmps43
        go_wp2_with (first | (refine wpList_load_mid rfl 53 _ rfl _ _ rfl x.cells _ (rangeAt_ext hr ((by repeat (first | assumption | exact Ext.refl _ | refine Ext.alloc ?_ _ | refine Ext.drew ?_ | refine Ext.drewN ?_ _ | refine Ext.setCell ?_ (by first | (simp; done) | omega | (simp; omega)) _ | refine Ext.trans (by assumption) ?_)))) Try.underlying53 rfl hi35 ?_) | (refine wpList_store_mid rfl 53 _ _ rfl _ 0 x.cells.toArray rfl rfl (there_at (by simp) _ (by rw [List.size_toArray, Node.len hok]; decide)) (by rw [List.size_toArray]; exact hi35) (all_oneCell_toArray (Node.one x)) ?_; rw [List.toList_toArray, setCells_at (by simp) (by rw [Node.len hok]; rfl)]))
        go_ret
        exact ⟨rfl, (by repeat (first | assumption | exact Ext.refl _ | refine Ext.alloc ?_ _ | refine Ext.drew ?_ | refine Ext.drewN ?_ _ | refine Ext.setCell ?_ (by first | (simp; done) | omega | (simp; omega)) _ | refine Ext.trans (by assumption) ?_))⟩
      · have g2 : ¬ (x.slot : Int) ≤ 1099511627776 := by omega
        rw [decide_eq_false hs]
        go_enter Try.func43, Try.ntmps43
        go_wp2_with (first | (refine wpList_load_mid rfl 53 _ rfl _ _ rfl x.cells _ (rangeAt_ext hr ((by repeat (first | assumption | exact Ext.refl _ | refine Ext.alloc ?_ _ | refine Ext.drew ?_ | refine Ext.drewN ?_ _ | refine Ext.setCell ?_ (by first | (simp; done) | omega | (simp; omega)) _ | refine Ext.trans (by assumption) ?_)))) Try.underlying53 rfl hi35 ?_) | (refine wpList_store_mid rfl 53 _ _ rfl _ 0 x.cells.toArray rfl rfl (there_at (by simp) _ (by rw [List.size_toArray, Node.len hok]; decide)) (by rw [List.size_toArray]; exact hi35) (all_oneCell_toArray (Node.one x)) ?_; rw [List.toList_toArray, setCells_at (by simp) (by rw [Node.len hok]; rfl)]))
        go_ret
        exact ⟨rfl, (by repeat (first | assumption | exact Ext.refl _ | refine Ext.alloc ?_ _ | refine Ext.drew ?_ | refine Ext.drewN ?_ _ | refine Ext.setCell ?_ (by first | (simp; done) | omega | (simp; omega)) _ | refine Ext.trans (by assumption) ?_))⟩
    · have g1 : (x.par == -1) = false := by simp [hp]
      rw [decide_eq_false hp, Bool.false_and]
      clear hp
      go_enter Try.func43, Try.ntmps43
      go_wp2_with (first | (refine wpList_load_mid rfl 53 _ rfl _ _ rfl x.cells _ (rangeAt_ext hr ((by repeat (first | assumption | exact Ext.refl _ | refine Ext.alloc ?_ _ | refine Ext.drew ?_ | refine Ext.drewN ?_ _ | refine Ext.setCell ?_ (by first | (simp; done) | omega | (simp; omega)) _ | refine Ext.trans (by assumption) ?_)))) Try.underlying53 rfl hi35 ?_) | (refine wpList_store_mid rfl 53 _ _ rfl _ 0 x.cells.toArray rfl rfl (there_at (by simp) _ (by rw [List.size_toArray, Node.len hok]; decide)) (by rw [List.size_toArray]; exact hi35) (all_oneCell_toArray (Node.one x)) ?_; rw [List.toList_toArray, setCells_at (by simp) (by rw [Node.len hok]; rfl)]))
      go_ret
      exact ⟨rfl, (by repeat (first | assumption | exact Ext.refl _ | refine Ext.alloc ?_ _ | refine Ext.drew ?_ | refine Ext.drewN ?_ _ | refine Ext.setCell ?_ (by first | (simp; done) | omega | (simp; omega)) _ | refine Ext.trans (by assumption) ?_))⟩
  · rw [if_neg h0]
    have g0 : ((i : Int) == 0) = false := by simp; omega
    by_cases h1 : 0 ≤ x.par
    · have g1 : decide (0 ≤ x.par) = true := decide_eq_true h1
      by_cases h2 : x.par < i
      · obtain ⟨p, hp⟩ := Int.eq_ofNat_of_zero_le h1
        have hpi : p < i := by omega
        obtain ⟨b', off', e', hrp, hokp⟩ := (HV.out w (Ext.refl _)).at' (i := p) (by omega)
        obtain ⟨rfl, rfl⟩ : b = b' ∧ off = off' := by simpa using e'
        have d33 := rangeAt_head hrp (Node.at33 hokp)
        change w.cell? _ = some (.int .u64 (Tree.nd NS p).slot) at d33
        rw [hp] at h2 g1 a32
        have e : Tree.nd NS x.par.toNat = Tree.nd NS p := by rw [hp]; rfl
        rw [e, hp]
        have bl := lt_of_cell d33
        generalize (Tree.nd NS p).slot = q at d33 ⊢
        have gpn : (p : Int) < n := by omega
        rw [show decide ((0 : Int) ≤ (p : Nat)) = true from g1, decide_eq_true h2, Bool.true_and, Bool.true_and]
        clear h1 hp e hrp hokp e'
        have g2 : decide ((p : Int) < i) = true := decide_eq_true h2
        by_cases hs : x.slot ≤ 1099511627776
        · have g3 : decide ((x.slot : Int) ≤ 1099511627776) = true := by simp; omega
          rw [decide_eq_true hs, Bool.true_and]
          by_cases hq : q < x.slot
          · have g4 : (q : Int) < x.slot := by omega
            rw [decide_eq_true hq]
            go_enter Try.func43, Try.ntmps43
            go_wp2_with (first | (refine wpList_load_mid rfl 53 _ rfl _ _ rfl x.cells _ (rangeAt_ext hr ((by repeat (first | assumption | exact Ext.refl _ | refine Ext.alloc ?_ _ | refine Ext.drew ?_ | refine Ext.drewN ?_ _ | refine Ext.setCell ?_ (by first | (simp; done) | omega | (simp; omega)) _ | refine Ext.trans (by assumption) ?_)))) Try.underlying53 rfl hi35 ?_) | (refine wpList_store_mid rfl 53 _ _ rfl _ 0 x.cells.toArray rfl rfl (there_at (by simp) _ (by rw [List.size_toArray, Node.len hok]; decide)) (by rw [List.size_toArray]; exact hi35) (all_oneCell_toArray (Node.one x)) ?_; rw [List.toList_toArray, setCells_at (by simp) (by rw [Node.len hok]; rfl)]))
            go_quiet (fail)
            go_wp2
            go_ret
            exact ⟨rfl, ((Ext.refl w).alloc _).drewN _⟩
          · have g4 : ¬ (q : Int) < x.slot := by omega
            rw [decide_eq_false hq]
            go_enter Try.func43, Try.ntmps43
            go_wp2_with (first | (refine wpList_load_mid rfl 53 _ rfl _ _ rfl x.cells _ (rangeAt_ext hr ((by repeat (first | assumption | exact Ext.refl _ | refine Ext.alloc ?_ _ | refine Ext.drew ?_ | refine Ext.drewN ?_ _ | refine Ext.setCell ?_ (by first | (simp; done) | omega | (simp; omega)) _ | refine Ext.trans (by assumption) ?_)))) Try.underlying53 rfl hi35 ?_) | (refine wpList_store_mid rfl 53 _ _ rfl _ 0 x.cells.toArray rfl rfl (there_at (by simp) _ (by rw [List.size_toArray, Node.len hok]; decide)) (by rw [List.size_toArray]; exact hi35) (all_oneCell_toArray (Node.one x)) ?_; rw [List.toList_toArray, setCells_at (by simp) (by rw [Node.len hok]; rfl)]))
            go_quiet (fail)
            go_wp2
            go_ret
            exact ⟨rfl, ((Ext.refl w).alloc _).drewN _⟩
        · have g3 : decide ((x.slot : Int) ≤ 1099511627776) = false := by simp; omega
          rw [decide_eq_false hs, Bool.false_and]
          go_enter Try.func43, Try.ntmps43
          go_wp2_with (first | (refine wpList_load_mid rfl 53 _ rfl _ _ rfl x.cells _ (rangeAt_ext hr ((by repeat (first | assumption | exact Ext.refl _ | refine Ext.alloc ?_ _ | refine Ext.drew ?_ | refine Ext.drewN ?_ _ | refine Ext.setCell ?_ (by first | (simp; done) | omega | (simp; omega)) _ | refine Ext.trans (by assumption) ?_)))) Try.underlying53 rfl hi35 ?_) | (refine wpList_store_mid rfl 53 _ _ rfl _ 0 x.cells.toArray rfl rfl (there_at (by simp) _ (by rw [List.size_toArray, Node.len hok]; decide)) (by rw [List.size_toArray]; exact hi35) (all_oneCell_toArray (Node.one x)) ?_; rw [List.toList_toArray, setCells_at (by simp) (by rw [Node.len hok]; rfl)]))
          go_quiet (fail)
          go_wp2
          go_ret
          exact ⟨rfl, ((Ext.refl w).alloc _).drewN _⟩
      · have g2 : decide (x.par < i) = false := decide_eq_false h2
        rw [g1, g2, Bool.true_and, Bool.false_and, Bool.false_and]
        go_enter Try.func43, Try.ntmps43
        go_wp2_with (first | (refine wpList_load_mid rfl 53 _ rfl _ _ rfl x.cells _ (rangeAt_ext hr ((by repeat (first | assumption | exact Ext.refl _ | refine Ext.alloc ?_ _ | refine Ext.drew ?_ | refine Ext.drewN ?_ _ | refine Ext.setCell ?_ (by first | (simp; done) | omega | (simp; omega)) _ | refine Ext.trans (by assumption) ?_)))) Try.underlying53 rfl hi35 ?_) | (refine wpList_store_mid rfl 53 _ _ rfl _ 0 x.cells.toArray rfl rfl (there_at (by simp) _ (by rw [List.size_toArray, Node.len hok]; decide)) (by rw [List.size_toArray]; exact hi35) (all_oneCell_toArray (Node.one x)) ?_; rw [List.toList_toArray, setCells_at (by simp) (by rw [Node.len hok]; rfl)]))
        go_quiet (fail)
        go_wp2
        go_ret
        exact ⟨rfl, ((Ext.refl w).alloc _).drewN _⟩
    · have g1 : decide (0 ≤ x.par) = false := decide_eq_false h1
      rw [g1, Bool.false_and, Bool.false_and, Bool.false_and]
      go_enter Try.func43, Try.ntmps43
      go_wp2_with (first | (refine wpList_load_mid rfl 53 _ rfl _ _ rfl x.cells _ (rangeAt_ext hr ((by repeat (first | assumption | exact Ext.refl _ | refine Ext.alloc ?_ _ | refine Ext.drew ?_ | refine Ext.drewN ?_ _ | refine Ext.setCell ?_ (by first | (simp; done) | omega | (simp; omega)) _ | refine Ext.trans (by assumption) ?_)))) Try.underlying53 rfl hi35 ?_) | (refine wpList_store_mid rfl 53 _ _ rfl _ 0 x.cells.toArray rfl rfl (there_at (by simp) _ (by rw [List.size_toArray, Node.len hok]; decide)) (by rw [List.size_toArray]; exact hi35) (all_oneCell_toArray (Node.one x)) ?_; rw [List.toList_toArray, setCells_at (by simp) (by rw [Node.len hok]; rfl)]))
      go_quiet (fail)
      go_wp2
      go_ret
      exact ⟨rfl, ((Ext.refl w).alloc _).drewN _⟩
theorem fits_is (A : Option Addr) (n c : Nat) (NS : List Node) (i : Nat) (hi : i < n) (b : Bool) (hb : Tree.fitsV NS i = b) (w : World) (h : NL w A n c NS) :
    Calls Try.prog 43 #[.slice A n c, .int .i64 i] w fun e w' => e = .returned (.bool b) ∧ Ext w w' := by subst hb; exact fits_any A n c NS i hi w h
set_option maxHeartbeats 1000000 in
theorem treeMay_any (A : Option Addr) (n c : Nat) (NS : List Node) (w : World) (h : NL w A n c NS) :
    Calls Try.prog 30 #[.agg #[.slice A n c]] w fun e w' => e = .returned (.bool (Tree.mayV NS)) ∧ Ext w w' := by
  have hlen := h.len
  have hroom := h.row.room
  by_cases h0 : n = 0
  · have e : Tree.mayV NS = false := by unfold Tree.mayV; rw [hlen, h0]; rfl
    rw [e]
    have g0 : ((n : Int) == 0) = true := by simp; omega
    clear h h0
    go_enter Try.func30, Try.ntmps30
    go_wp2
    go_ret
    exact ⟨rfl, (by repeat (first | assumption | exact Ext.refl _ | refine Ext.alloc ?_ _ | refine Ext.drew ?_ | refine Ext.drewN ?_ _ | refine Ext.setCell ?_ (by first | (simp; done) | omega | (simp; omega)) _ | refine Ext.trans (by assumption) ?_))⟩
  · have g0 : ((n : Int) == 0) = false := by simp; omega
    by_cases h12 : 12 < n
    · have e : Tree.mayV NS = false := by unfold Tree.mayV; rw [hlen, decide_eq_false (show ¬ n ≤ 12 by omega)]; simp
      rw [e]
      have g1 : (12 : Int) < n := by omega
      clear h h0
      go_enter Try.func30, Try.ntmps30
      go_wp2
      go_ret
      exact ⟨rfl, (by repeat (first | assumption | exact Ext.refl _ | refine Ext.alloc ?_ _ | refine Ext.drew ?_ | refine Ext.drewN ?_ _ | refine Ext.setCell ?_ (by first | (simp; done) | omega | (simp; omega)) _ | refine Ext.trans (by assumption) ?_))⟩
    · have g1 : ¬ (12 : Int) < n := by omega
      have HV := Lib.hid (fun W (k : Ext w W) => h.ext k)
      have HF := Lib.hid (fun i (hi : i < n) b (hb : Tree.fitsV NS i = b) W (k : Ext w W) => fits_is A n c NS i hi b hb W (h.ext k))
      have HI := Lib.hid (fun W (k : Ext w W) => index_any A n c NS W (h.ext k))
      have hpos : 0 < n := by omega
      clear h h0
      go_enter Try.func30, Try.ntmps30
      go_wp2
      have p0 : (w.alloc (.cells #[.slice A n c] 24)).cell? ⟨w.heap.size, 0, none⟩ = some (.slice A n c) := by simp
      have k1 : Ext w (w.alloc (.cells #[.slice A n c] 24)) := (by repeat (first | assumption | exact Ext.refl _ | refine Ext.alloc ?_ _ | refine Ext.drew ?_ | refine Ext.drewN ?_ _ | refine Ext.setCell ?_ (by first | (simp; done) | omega | (simp; omega)) _ | refine Ext.trans (by assumption) ?_))
      generalize (w.alloc (.cells #[.slice A n c] 24)) = w1 at p0 k1 ⊢
      have P0 := Lib.hid p0
      clear p0
      go_loopw [3, 19] (fun _ i wr => ∃ k : Nat, k ≤ n ∧ i = .int .i64 k ∧ (∀ j, j < k → Tree.fitsV NS j = true) ∧ Ext w1 wr) (fun _ i _ => n - (intOf i).toNat)
      case atStart => exact ⟨0, Nat.zero_le _, rfl, (fun j hj => absurd hj (Nat.not_lt_zero j)), Ext.refl _⟩
      case round =>
        obtain ⟨k, hk, rfl, hno, hx⟩ := hrel
        have HNO := Lib.hid hno
        clear hno
        have p0 := hx.cell P0.out
        by_cases hlt : k < n
        · have g2 : (k : Int) < n := by omega
          cases hb : Tree.fitsV NS k with
          | true =>
            have HF' := Lib.hid (fun W (kx : Ext w W) => HF.out k hlt true hb W kx)
            have HB := Lib.hid hb
            clear hb
            go_wp2_with fail
            refine (HF'.out _ (k1.trans hx)).mono ?_
            rintro e w2 ⟨rfl, hx2⟩
            go_wp2
            go_roundw
            case rel =>
              have hno' : ∀ j, j < k + 1 → Tree.fitsV NS j = true := fun j hj => by
                rcases Nat.lt_or_eq_of_le (Nat.lt_succ_iff.1 hj) with h | rfl
                · exact HNO.out j h
                · exact HB.out
              first | exact ⟨k + 1, by omega, by go_num, hno', hx.trans hx2⟩ | (refine ⟨_, ⟨k + 1, by omega, ?_, hno', hx.trans hx2⟩, rfl⟩; go_num)
            case measure => simp [intOf]; omega
          | false =>
            have HF' := Lib.hid (fun W (kx : Ext w W) => HF.out k hlt false hb W kx)
            have hm : Hid (Tree.mayV NS = false) := by
              show Tree.mayV NS = false
              cases hm : Tree.mayV NS with
              | false => rfl
              | true => rw [(Tree.mayV_iff.1 hm).2.2.1 k (by omega)] at hb; cases hb
            clear hb
            go_wp2_with fail
            refine (HF'.out _ (k1.trans hx)).mono ?_
            rintro e w2 ⟨rfl, hx2⟩
            go_wp2
            go_ret
            exact ⟨by rw [hm.out]; rfl, k1.trans (hx.trans hx2)⟩
        · have e : k = n := by omega
          subst e
          have hm : Hid (Tree.mayV NS = decide (Tree.roots NS).Nodup) := by
            show Tree.mayV NS = _
            have hall : (List.range NS.length).all (Tree.fitsV NS) = true := by
              rw [List.all_eq_true]
              intro j hj
              exact HNO.out j (by have := List.mem_range.1 hj; omega)
            unfold Tree.mayV
            rw [hall, decide_eq_true (show 0 < NS.length by omega), decide_eq_true (show NS.length ≤ 12 by omega)]
            rfl
          obtain ⟨q, hq⟩ : ∃ q, decide (Tree.roots NS).Nodup = q := ⟨_, rfl⟩
          simp only [hq] at HI hm
          clear hq
          go_wp2_with fail
          refine (HI.out _ (k1.trans hx)).mono ?_
          rintro e w2 ⟨⟨B, D, rfl, _, _⟩, hx2⟩
          go_wp2
          go_ret
          exact ⟨by rw [hm.out]; rfl, k1.trans (hx.trans hx2)⟩
/-- .. where it is known whether it may be. -/
theorem treeMay_is (A : Option Addr) (n c : Nat) (NS : List Node) (b : Bool) (hb : Tree.mayV NS = b) (w : World) (h : NL w A n c NS) :
    Calls Try.prog 30 #[.agg #[.slice A n c]] w fun e w' => e = .returned (.bool b) ∧ Ext w w' := by subst hb; exact treeMay_any A n c NS w h
theorem findV_in {NS : List Node} {r : List Int} (hm : Tree.mayV NS = true) (hr : r ∈ Tree.roots NS) : Tree.findV NS r = ((Tree.roots NS).idxOf r : Nat) := by unfold Tree.findV; rw [if_pos ⟨hm, hr⟩]
theorem findV_out {NS : List Node} {r : List Int} (hr : r ∉ Tree.roots NS) : Tree.findV NS r = -1 := by unfold Tree.findV; rw [if_neg (fun h => hr h.2)]
theorem findV_no {NS : List Node} {r : List Int} (hm : Tree.mayV NS = false) : Tree.findV NS r = -1 := by unfold Tree.findV; rw [hm]; simp
/-- What a look-up of a root yields, where each root is there once. -/
theorem IMap.at_in {w : World} {B : Nat} {R : List (List Int)} {D : DataW Unit} (h : IMap w B R D) (hR : ∀ s ∈ R, RootOk s) (hn : R.Nodup) {r : List Int} (hr : r ∈ R) : D.atKey (keyL r) (.lit (.int .i64 0)) = .lit (.int .i64 (R.idxOf r : Nat)) := by
  have hlt := List.idxOf_lt_length_of_mem hr
  have hg : R[R.idxOf r]? = some r := by rw [List.getElem?_eq_getElem hlt]; simp
  refine h.val (R.idxOf r) r hg (hR r hr) (fun hm => ?_)
  have e : R = R.take (R.idxOf r + 1) ++ R.drop (R.idxOf r + 1) := (List.take_append_drop _ _).symm
  rw [e] at hn
  refine (List.nodup_append.1 hn).2.2 r ?_ r hm rfl
  rw [List.mem_take_iff_getElem]
  exact ⟨R.idxOf r, by omega, by simp⟩

set_option maxHeartbeats 1000000 in
theorem find_any (A : Option Addr) (n c : Nat) (NS : List Node) (r : List Int) (hr : RootOk r) (w : World) (h : NL w A n c NS) :
    Calls Try.prog 16 #[.agg #[.slice A n c], .agg (rootC r).toArray] w fun e w' => e = .returned (.int .i64 (Tree.findV NS r)) ∧ Ext w w' := by
  have HI := Lib.hid (fun W (k : Ext w W) => index_any A n c NS W (h.ext k))
  have HM := Lib.hid (fun b (hb : Tree.mayV NS = b) W (k : Ext w W) => treeMay_is A n c NS b hb W (h.ext k))
  have HO := Lib.hid (roots_ok h)
  have hi32 : (Try.prog.info? 38).map (·.size) = some (rootC r).length := by rw [rootC_len hr]; kernel_rfl
  clear h
  cases hm : Tree.mayV NS with
  | false =>
    have HM' := Lib.hid (fun W (kx : Ext w W) => HM.out false hm W kx)
    rw [findV_no hm]
    clear hm
    go_enter Try.func16, Try.ntmps16
    go_wp2_with fail
    refine (HM'.out _ ((by repeat (first | assumption | exact Ext.refl _ | refine Ext.alloc ?_ _ | refine Ext.drew ?_ | refine Ext.drewN ?_ _ | refine Ext.setCell ?_ (by first | (simp; done) | omega | (simp; omega)) _ | refine Ext.trans (by assumption) ?_)))).mono ?_
    rintro e w1 ⟨rfl, hx1⟩
    go_wp2
    go_ret
    exact ⟨rfl, Ext.trans ((by repeat (first | assumption | exact Ext.refl _ | refine Ext.alloc ?_ _ | refine Ext.drew ?_ | refine Ext.drewN ?_ _ | refine Ext.setCell ?_ (by first | (simp; done) | omega | (simp; omega)) _ | refine Ext.trans (by assumption) ?_))) hx1⟩
  | true =>
    have HM' := Lib.hid (fun W (kx : Ext w W) => HM.out true hm W kx)
    have hnd := Tree.nodup hm
    have HND := Lib.hid hnd
    rw [decide_eq_true hnd] at HI
    by_cases hmem : r ∈ Tree.roots NS
    · rw [findV_in hm hmem]
      have HMEM := Lib.hid hmem
      clear hm hmem hnd
      go_enter Try.func16, Try.ntmps16
      go_wp2_with fail
      refine (HM'.out _ ((by repeat (first | assumption | exact Ext.refl _ | refine Ext.alloc ?_ _ | refine Ext.drew ?_ | refine Ext.drewN ?_ _ | refine Ext.setCell ?_ (by first | (simp; done) | omega | (simp; omega)) _ | refine Ext.trans (by assumption) ?_)))).mono ?_
      rintro e w1 ⟨rfl, hx1⟩
      have k1 : Ext w w1 := Ext.trans ((by repeat (first | assumption | exact Ext.refl _ | refine Ext.alloc ?_ _ | refine Ext.drew ?_ | refine Ext.drewN ?_ _ | refine Ext.setCell ?_ (by first | (simp; done) | omega | (simp; omega)) _ | refine Ext.trans (by assumption) ?_))) hx1
      have rR := rangeAt_ext (range_at (w := w.alloc (.cells #[.slice A n c] 24)) (B := w.heap.size + 1) (rootC r) 38 (by simp)) hx1
      have c0 := hx1.cell (p := ⟨w.heap.size, 0, none⟩) (v := .slice A n c) (by first | (simp; done) | (simp (maxDischargeDepth := 7) [go_sem]; done))
      go_wp2_with fail
      refine (HI.out _ k1).mono ?_
      rintro e w2 ⟨⟨B, D, rfl, M, hB⟩, hx2⟩
      replace rR := rangeAt_ext rR hx2
      have hat := M.at_in HO.out HND.out HMEM.out
      have hhas := M.has r hr
      rw [decide_eq_true HMEM.out] at hhas
      have hown := M.own
      go_wp2_with (first | (refine wpList_load_mid rfl 38 _ rfl _ _ rfl (rootC r) _ rR Try.underlying38 rfl hi32 ?_) | (at_lookup; refine wpList_lookup_own_ok_int _ rfl _ _ 60 rfl 38 3 .i64 keyLaw Try.underlying60 Try.underlying3 ((zeroI _)) B _ D rfl hown _ (keyL r) rfl (key_is hr) ?_; intro c hc hwc; rw [hhas]))
      have ec : c = ((Tree.roots NS).idxOf r : Nat) := by
        have := hat.symm.trans hc
        simpa using this.symm
      go_ret
      exact ⟨by rw [← ec]; rfl, k1.trans hx2⟩
    · rw [findV_out hmem]
      have HMEM := Lib.hid hmem
      clear hm hmem hnd
      go_enter Try.func16, Try.ntmps16
      go_wp2_with fail
      refine (HM'.out _ ((by repeat (first | assumption | exact Ext.refl _ | refine Ext.alloc ?_ _ | refine Ext.drew ?_ | refine Ext.drewN ?_ _ | refine Ext.setCell ?_ (by first | (simp; done) | omega | (simp; omega)) _ | refine Ext.trans (by assumption) ?_)))).mono ?_
      rintro e w1 ⟨rfl, hx1⟩
      have k1 : Ext w w1 := Ext.trans ((by repeat (first | assumption | exact Ext.refl _ | refine Ext.alloc ?_ _ | refine Ext.drew ?_ | refine Ext.drewN ?_ _ | refine Ext.setCell ?_ (by first | (simp; done) | omega | (simp; omega)) _ | refine Ext.trans (by assumption) ?_))) hx1
      have rR := rangeAt_ext (range_at (w := w.alloc (.cells #[.slice A n c] 24)) (B := w.heap.size + 1) (rootC r) 38 (by simp)) hx1
      have c0 := hx1.cell (p := ⟨w.heap.size, 0, none⟩) (v := .slice A n c) (by first | (simp; done) | (simp (maxDischargeDepth := 7) [go_sem]; done))
      go_wp2_with fail
      refine (HI.out _ k1).mono ?_
      rintro e w2 ⟨⟨B, D, rfl, M, hB⟩, hx2⟩
      replace rR := rangeAt_ext rR hx2
      have hhas := M.has r hr
      rw [decide_eq_false HMEM.out] at hhas
      have hown := M.own
      go_wp2_with (first | (refine wpList_load_mid rfl 38 _ rfl _ _ rfl (rootC r) _ rR Try.underlying38 rfl hi32 ?_) | (at_lookup; refine wpList_lookup_own_ok_int _ rfl _ _ 60 rfl 38 3 .i64 keyLaw Try.underlying60 Try.underlying3 ((zeroI _)) B _ D rfl hown _ (keyL r) rfl (key_is hr) ?_; intro c hc hwc; rw [hhas]))
      go_ret
      exact ⟨rfl, k1.trans hx2⟩
end Go.Proofs.Ytjhhfininnlkfaa
