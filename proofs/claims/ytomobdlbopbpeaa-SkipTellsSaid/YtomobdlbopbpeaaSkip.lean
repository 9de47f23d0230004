/- The contracts of layer 7 (skip): table, Table. -/
import Derived.Test.YtomobdlbopbpeaaSkipV
import Derived.Test.YtomobdlbopbpeaaOwnRow
namespace Go.Proofs.Ytomobdlbopbpeaa
open Go.RowKit Go.WideShapes Go.ChangeShapes
set_option linter.unusedVariables false
set_option linter.unusedSimpArgs false





namespace Skip
def rowC (T : List Node) (i : Nat) : List Value := (rowI T i).map (Value.int .i64)
def tabL (T : List Node) (n : Nat) : List (List Value) := (List.range n).map (rowC T)
theorem tab_len (T : List Node) (n : Nat) : (tabL T n).length = n := by simp [tabL]
theorem tab_wide (T : List Node) (n : Nat) : ∀ x ∈ tabL T n, x.length = 4 ∧ ∀ u ∈ x, u.oneCell' = true := by
  intro x hx
  obtain ⟨i, _, rfl⟩ := List.mem_map.1 hx
  refine ⟨rfl, fun u hu => ?_⟩
  obtain ⟨y, _, rfl⟩ := List.mem_map.1 hu
  rfl
theorem row_one (T : List Node) (i : Nat) : ∀ u ∈ rowC T i, u.oneCell' = true := by
  intro u hu
  obtain ⟨y, _, rfl⟩ := List.mem_map.1 hu
  rfl
theorem tab_get (T : List Node) {n i : Nat} (h : i < n) : (tabL T n).getD i [] = rowC T i := by simp [tabL, List.getD, h]
theorem tab_succ (T : List Node) (n : Nat) : tabL T (n + 1) = tabL T n ++ [rowC T n] := by unfold tabL; rw [List.range_succ, List.map_append]; rfl
theorem tab_flat (T : List Node) (n : Nat) : (tabL T (n + 1)).flatten = (tabL T n).flatten ++ rowC T n := by rw [tab_succ, List.flatten_append]; simp
theorem set_get {T : List Node} {i k : Nat} {cs : Array Value} (h : cs.size = 4) (hk : k + 1 < 4) (hcs : ∀ j, j ≤ k → cs[j]? = some (.int .i64 (leap T i j))) {v : Int} (hv : v = leap T i (k + 1)) : ∀ j, j ≤ k + 1 → (cs.setIfInBounds (k + 1) (.int .i64 v))[j]? = some (.int .i64 (leap T i j)) := by
  intro j hj
  by_cases e : j = k + 1
  · subst e; simp [hv, h, hk]
  · rw [Array.getElem?_setIfInBounds_ne (by omega)]
    exact hcs j (by omega)
theorem set_keep {T : List Node} {i k : Nat} {cs : Array Value} (h : cs.size = 4) (hcs : ∀ j, j ≤ k → cs[j]? = some (.int .i64 (leap T i j))) {v : Value} : ∀ j, j ≤ k → (cs.setIfInBounds (k + 1) v)[j]? = some (.int .i64 (leap T i j)) := by
  intro j hj
  rw [Array.getElem?_setIfInBounds_ne (by omega)]
  exact hcs j hj
theorem row_full {T : List Node} {i : Nat} {cs : Array Value} (h : cs.size = 4) (hcs : ∀ j, j ≤ 3 → cs[j]? = some (.int .i64 (leap T i j))) : (rowC T i).toArray = cs := by
  apply Array.ext'
  apply List.ext_getElem?
  intro j
  by_cases hj : j ≤ 3
  · have := hcs j hj
    rw [← Array.getElem?_toList] at this
    rw [this]
    have : j = 0 ∨ j = 1 ∨ j = 2 ∨ j = 3 := by omega
    rcases this with rfl | rfl | rfl | rfl <;> rfl
  · rw [List.getElem?_eq_none (by show 4 ≤ j; omega), List.getElem?_eq_none (by rw [Array.length_toList]; omega)]
end Skip
/-- The table of leaps, as it lies. -/
structure Tab (W : World) (A : Option Addr) (n c : Nat) (T : List Node) : Prop where
  row : WRow W 4 A n c (Skip.tabL T n)
theorem Tab.ext {W W' : World} {A : Option Addr} {n c : Nat} {T : List Node} (h : Tab W A n c T) (hx : Ext W W') : Tab W' A n c T := ⟨h.row.ext hx⟩
theorem Tab.at' {W : World} {A : Option Addr} {n c : Nat} {T : List Node} (h : Tab W A n c T) {i : Nat} (hi : i < n) : ∃ b off, A = some ⟨b, off, none⟩ ∧ W.rangeAt b (off + i * 4) (Skip.rowC T i) := by
  obtain ⟨b, off, e, hc⟩ := h.row.cells (by omega)
  exact ⟨b, off, e, by have := hc i hi; rwa [Skip.tab_get T hi] at this⟩
theorem row_cell {W : World} {b o : Nat} {T : List Node} {i : Nat} (h : W.rangeAt b o (Skip.rowC T i)) {k : Nat} (hk : k < 4) : W.cell? ⟨b, o + k, none⟩ = some (.int .i64 (Skip.leap T i k)) := by
  refine rangeAt_head h ?_
  have : k = 0 ∨ k = 1 ∨ k = 2 ∨ k = 3 := by omega
  rcases this with rfl | rfl | rfl | rfl <;> rfl
theorem set4 {w : World} {L j : Nat} {cs : Array Value} {e : TypeId} (h : w.heap[L]? = some (.cells cs e)) (v : Value) : (w.setCell ⟨L, j, none⟩ v).heap[L]? = some (.cells (cs.setIfInBounds j v) e) := by
  show (w.heap.modify L _)[L]? = _
  rw [Array.getElem?_modify]
  simp [h]
theorem cell4 {w : World} {L j : Nat} {cs : Array Value} {e : TypeId} (h : w.heap[L]? = some (.cells cs e)) {v : Value} (hv : cs[j]? = some v) : w.cell? ⟨L, j, none⟩ = some v := by
  simp [World.cell?, h, hv]
theorem free4 {w : World} {L : Nat} {cs : Array Value} {e : TypeId} (h : w.heap[L]? = some (.cells cs e)) (j : Nat) : w.frozen? ⟨L, j, none⟩ = false := by
  simp [World.frozen?, h]
theorem range4 {w : World} {L : Nat} {cs : List Value} {e : TypeId} (h : w.heap[L]? = some (.cells cs.toArray e)) : w.rangeAt L 0 cs := fun j v hv => by
  rw [Nat.zero_add]
  exact cell4 h (by simpa using hv)
theorem heap_alloc_at {w : World} {B : Nat} {o : Obj} (h : B = w.heap.size) : (w.alloc o).heap[B]? = some o := by subst h; exact heap_alloc_new w o
theorem rowTab : RowT Try.prog 28 41 4 32 := RowT.mk' (z := .agg #[.int .i64 0, .int .i64 0, .int .i64 0, .int .i64 0]) rfl (by kernel_rfl) rfl (by omega) (by omega)
theorem src_at4 {w : World} {B size m c : Nat} {e : TypeId} {xs : List Value} (hl : xs.length = m * size) (h1 : ∀ u ∈ xs, u.oneCell' = true) (hB : B = w.heap.size) : Src (w.alloc (.cells xs.toArray e)) size (some ⟨B, 0, none⟩) m c xs := by
  subst hB; exact src_new hl h1
set_option maxRecDepth 100000 in
set_option maxHeartbeats 2000000 in
theorem table_any (A : Option Addr) (n c : Nat) (NS : List Node) (hm : Tree.mayV NS = true) (w : World) (h : NL w A n c NS) :
    Calls Try.prog 25 #[.agg #[.slice A n c]] w fun e w' => (∃ B d, e = .returned (.slice B n d) ∧ Tab w' B n d NS) ∧ Ext w w' := by
  have hlen := h.len
  have hroom := h.row.room
  have HV := Lib.hid (fun W (k : Ext w W) => h.ext k)
  have HMA := Lib.hid hm
  have h12 := Tree.len_le hm
  rw [hlen] at h12
  clear h hm
  go_enter Try.func25, Try.ntmps25
  go_wp2
  obtain ⟨w1, hw1⟩ : ∃ w1, w.alloc (.cells #[.slice A n c] 24) = w1 := ⟨_, rfl⟩
  have k1 : Ext w w1 := by rw [← hw1]; exact (by repeat (first | assumption | exact Ext.refl _ | refine Ext.alloc ?_ _ | refine Ext.drew ?_ | refine Ext.drewN ?_ _ | refine Ext.setCell ?_ (by first | (simp; done) | omega | (simp; omega)) _ | refine Ext.trans (by assumption) ?_))
  rw [hw1]
  clear hw1
  go_loopw [3, 5, 6, 7, 11, 18] (fun v _ _ _ i' _ wr => ∃ i : Nat, i ≤ n ∧ i' = .int .i64 i ∧ wr.ownsRow w1.heap.size 41 4 v i (Skip.tabL NS i).flatten ∧ Ext w1 wr) (fun _ _ _ _ i' _ _ => n - (intOf i').toNat)
  case atStart => exact ⟨0, Nat.zero_le _, rfl, own_new _ _ _ _, Ext.refl _⟩
  case round =>
    obtain ⟨i, hi, rfl, hown, hx⟩ := hrel
    have kr := k1.trans hx
    by_cases hlt : i < n
    · have gi : (i : Int) < n := by omega
      obtain ⟨b, off, rfl, hr, hok⟩ := (HV.out wr kr).at' hlt
      change wr.rangeAt _ _ (Tree.nd NS i).cells at hr
      replace hok : (Tree.nd NS i).Ok := hok
      have hp0 := Skip.leap_zero HMA.out (i := i) (by omega)
      generalize Tree.nd NS i = x at *
      have hi35 : (Try.prog.info? 40).map (·.size) = some x.cells.length := by rw [Node.len hok]; kernel_rfl
      have a32 := Node.at32 hok
      go_upto_region 5 with (first | (refine wpList_load_mid rfl 40 _ rfl _ _ rfl x.cells _ (rangeAt_ext hr ((by repeat (first | assumption | exact Ext.refl _ | refine Ext.alloc ?_ _ | refine Ext.drew ?_ | refine Ext.drewN ?_ _ | refine Ext.setCell ?_ (by first | (simp; done) | omega | (simp; omega)) _ | refine Ext.trans (by assumption) ?_)))) Try.underlying40 rfl hi35 ?_) | (refine wpList_store_mid rfl 40 _ _ rfl _ 0 x.cells.toArray rfl rfl (there_at (by simp) _ (by rw [List.size_toArray, Node.len hok]; decide)) (by rw [List.size_toArray]; exact hi35) (all_oneCell_toArray (Node.one x)) ?_; rw [List.toList_toArray, setCells_at (by simp) (by rw [Node.len hok]; rfl)]))
      go_wp2
      obtain ⟨a0, ha0⟩ : ∃ a0, x.par = a0 := ⟨_, rfl⟩
      rw [ha0] at hp0 ⊢
      obtain ⟨TA, tc, rfl, hrow, hbl⟩ := wide_own (by omega) hown (by omega) (Skip.tab_len NS i) (Skip.tab_wide NS i)
      obtain ⟨wo, hwo⟩ : ∃ wo, (wr.alloc (.cells x.cells.toArray 40)).alloc (.cells #[.int .i64 a0, .int .i64 0, .int .i64 0, .int .i64 0] 41) = wo := ⟨_, rfl⟩
      have ko : Ext wr wo := by rw [← hwo]; exact (by repeat (first | assumption | exact Ext.refl _ | refine Ext.alloc ?_ _ | refine Ext.drew ?_ | refine Ext.drewN ?_ _ | refine Ext.setCell ?_ (by first | (simp; done) | omega | (simp; omega)) _ | refine Ext.trans (by assumption) ?_))
      have hL : wo.heap[wr.heap.size + 1]? = some (.cells #[.int .i64 a0, .int .i64 0, .int .i64 0, .int .i64 0] 41) := by rw [← hwo]; exact heap_alloc_at (by simp)
      obtain ⟨L, hLe⟩ : ∃ L, wr.heap.size + 1 = L := ⟨_, rfl⟩
      rw [hwo]
      rw [hLe] at hL ⊢
      have HOW := Lib.hid hown
      have HTA : Hid (Tab wr TA i tc NS) := ⟨hrow⟩
      have HP0 := Lib.hid hp0
      clear hwo hown hrow hr hok hi35 a32 ha0 hp0
      go_loopw [7, 18] (fun _ k' wq => ∃ (k : Nat) (cs : Array Value), k ≤ 3 ∧ k' = .int .i64 k ∧ Ext wr wq ∧ wq.heap[L]? = some (.cells cs 41) ∧ cs.size = 4 ∧ ∀ j, j ≤ k → cs[j]? = some (.int .i64 (Skip.leap NS i j))) (fun _ k' _ => 3 - (intOf k').toNat)
      case atStart => exact ⟨0, _, by omega, rfl, ko, hL, rfl, fun j hj => by obtain rfl : j = 0 := (by omega); rw [HP0.out]; rfl⟩
      case round =>
        obtain ⟨k, cs, hk, rfl, kq, hQ, hsz, hcs⟩ := hrel
        clear hL
        by_cases hk3 : k < 3
        · have gk : (k : Int) < 3 := by omega
          have gk1 : (k : Int) + 1 < 4 := by omega
          have gk2 : (k : Int) < 4 := by omega
          have gk3 : k + 1 < 4 := by omega
          have gk4 : k < 4 := by omega
          have cur := cell4 hQ (hcs k (Nat.le_refl _))
          obtain ⟨u, hu⟩ : ∃ u, cs[k + 1]? = some u := ⟨_, Array.getElem?_eq_getElem (by omega)⟩
          have nxt := cell4 hQ hu
          have fr := free4 hQ
          have hln := Skip.leap_next NS i k
          rcases Skip.leap_cases NS i k with ⟨h1, _⟩ | ⟨p, h1, _, _, hpi, _⟩
          · rw [if_pos h1] at hln
            rw [h1] at cur
            go_wp2
            go_roundw
            case rel => exact ⟨k + 1, _, by omega, by go_num, kq.setCell (p := ⟨L, k + 1, none⟩) (by show _ ≤ L; omega) _, set4 hQ _, by simp [hsz], Skip.set_get hsz gk3 hcs hln.symm⟩
            case measure => simp [intOf]; omega
          · rw [h1] at cur hln
            rw [if_neg (by omega), Int.toNat_natCast] at hln
            obtain ⟨tb, to, rfl, hrc⟩ := HTA.out.at' hpi
            have d0 := row_cell hrc (k := k) (by omega)
            have hlt2 := lt_of_cell d0
            replace hlt2 : tb < _ := hlt2
            have hne : tb ≠ L := by omega
            replace d0 := kq.cell d0
            have gp : ((p : Int) != -1) = true := by first | (simp; done) | (simp; omega)
            have gpi : (p : Int) < i := by omega
            go_wp2
            go_roundw
            case rel => first | exact ⟨k + 1, _, by omega, by go_num, kq.setCell (p := ⟨L, k + 1, none⟩) (by show _ ≤ L; omega) _, set4 hQ _, by simp [hsz], Skip.set_get hsz gk3 hcs hln.symm⟩ | exact ⟨k + 1, _, by omega, by go_num, (kq.setCell (p := ⟨L, k + 1, none⟩) (by show _ ≤ L; omega) _).setCell (p := ⟨L, k + 1, none⟩) (by show _ ≤ L; omega) _, set4 (set4 hQ _) _, by simp [hsz], Skip.set_get (by simp [hsz]) gk3 (Skip.set_keep hsz hcs) hln.symm⟩
            case measure => simp [intOf]; omega
        · obtain rfl : k = 3 := by omega
          obtain rfl := Skip.row_full hsz hcs
          have rL := range4 hQ
          have hi4 : (Try.prog.info? 41).map (·.size) = some (Skip.rowC NS i).length := by kernel_rfl
          have hs1 := kq.size
          have hs2 := hx.size
          have ownq := own_ext HOW.out kq
          clear hcs
          go_wp2_with (first | (refine wpList_load_mid rfl 41 _ rfl _ _ rfl (Skip.rowC NS i) _ rL Try.underlying41 rfl hi4 ?_) | (at_builtin; refine wpList_app rowTab rfl _ _ rfl w1.heap.size _ _ _ rfl (ownq.alloc _) (some ⟨_, 0, none⟩) 1 1 (Skip.rowC NS i) rfl (src_at4 (xs := Skip.rowC NS i) rfl (Skip.row_one NS i) (by simp)) (by omega) (by first | (simp; done) | (simp; omega)) ?_; intro v' w5 hown5 hgrow5 _))
          have hx5 : Ext w1 w5 := ((hx.trans kq).alloc _).grown hgrow5 (fun j e => own_from HOW.out j e)
          go_roundw
          case rel =>
            have ho : w5.ownsRow w1.heap.size 41 4 v' (i + 1) (Skip.tabL NS (i + 1)).flatten := by
              rw [Skip.tab_flat]; exact hown5
            first | exact ⟨i + 1, by omega, by go_num, ho, hx5⟩ | (refine ⟨_, _, _, _, ⟨i + 1, by omega, ?_, ho, hx5⟩, rfl, rfl, rfl, rfl⟩; go_num)
          case measure => simp [intOf]; omega
    · obtain rfl : n = i := by omega
      obtain ⟨TA, tc, rfl, hrow, hbl⟩ := wide_own (by omega) hown (by omega) (Skip.tab_len NS n) (Skip.tab_wide NS n)
      have HTA : Hid (Tab wr TA n tc NS) := ⟨hrow⟩
      clear hown hrow
      go_wp2
      go_ret
      exact ⟨⟨_, _, rfl, HTA.out⟩, kr⟩
end Go.Proofs.Ytomobdlbopbpeaa
