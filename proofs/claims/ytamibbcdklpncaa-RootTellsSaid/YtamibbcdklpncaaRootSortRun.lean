/- root.Sort: its contract. -/
import Derived.Test.YtamibbcdklpncaaRootList
namespace Go.Proofs.Ytamibbcdklpncaa
open Go.RowKit Go.WideShapes Go.ChangeShapes
set_option linter.unusedVariables false
set_option linter.unusedSimpArgs false









theorem src_newAt {w : World} {size m c B : Nat} {e : TypeId} {xs : List Value} (hB : B = w.heap.size) (hl : xs.length = m * size) (h1 : ∀ u ∈ xs, u.oneCell' = true) : Src (w.alloc (.cells xs.toArray e)) size (some ⟨B, 0, none⟩) m c xs := by subst hB; exact src_new hl h1
theorem sortOwn_any (base n d : Nat) (Ao : Option Addr) (R : List (List Int)) (hR : ∀ r ∈ R, RootOk r) (w : World) (hn : n ≤ 1000) (hl : R.length = n)
    (h : w.ownsRow base 23 32 (.slice Ao n d) n (R.map rootC).flatten) :
    Calls Try.prog 21 #[.slice Ao n d, .func (.func 22) #[] #[]] w fun e w' => e = .returned (.tuple #[]) ∧ RL w' Ao n d (sortL R) ∧ Below base w w' := by
  rcases h.2 with ⟨e1, e2⟩ | ⟨g, cap, cur, e1, hb, hh, hc, hm, hs, ht⟩
  · obtain ⟨rfl, rfl, rfl⟩ : Ao = none ∧ n = 0 ∧ d = 0 := by simpa using e1
    obtain rfl := List.eq_nil_of_length_eq_zero hl
    have hcon := AnyF.slices_SortFunc_none Try.sortRoots none 0 (.func (.func 22) #[] #[]) w
    change Calls Try.prog 21 _ _ _ at hcon
    refine hcon.mono ?_
    rintro e w' ⟨he, rfl⟩
    exact ⟨he, ⟨by simpa [sortL] using WRow.nil_mk _ _, by simp [sortL], by omega⟩, Below.refl _ _⟩
  · obtain ⟨rfl, rfl⟩ : Ao = some ⟨g, 0, none⟩ ∧ d = cap := by simpa using e1
    refine (sortFunc_any base g n d R hR w hb (by omega) hl h).mono ?_
    rintro e w' ⟨he, hw, hbw⟩
    exact ⟨he, ⟨hw, fun x hx => hR x (Root.mem_sortL.1 hx), by omega⟩, hbw⟩
theorem ne_own {w : World} {base : Nat} {e : TypeId} {size : Nat} {v : Value} {n : Nat} {xs : List Value} (h : w.ownsRow base e size v n xs) {g : Nat} (hg : g < base) : v.ownBlock ≠ some g := fun e => own_ne h hg e.symm
set_option maxHeartbeats 2000000 in
theorem sort_any (A : Option Addr) (n c : Nat) (R : List (List Int)) (w : World) (h : RL w A n c R) (hn : n ≤ 1000) :
    Calls Try.prog 14 #[.slice A n c] w fun e w' => (∃ A' n' c', e = .returned (.slice A' n' c') ∧ RL w' A' n' c' (Root.sortV R)) ∧ Ext w w' := by
  have hlen := h.len
  have HV := Lib.hid (fun W (k : Ext w W) => h.ext k)
  have HOK := Lib.hid h.ok
  clear h
  have hmm := @run_makeMap Try.prog
  go_enter Try.func14, Try.ntmps14
  go_wp2
  have R0 : GathR w (w.alloc (.map #[] 0)) w.heap.size (.slice none 0 0) (Root.ddV (R.take 0)) := ⟨(by repeat (first | assumption | exact Ext.refl _ | refine Ext.alloc ?_ _ | refine Ext.drew ?_ | refine Ext.drewN ?_ _ | refine Ext.setCell ?_ (by first | (simp; done) | omega | (simp; omega)) _ | refine Ext.trans (by assumption) ?_)), ⟨_, BMap.made w⟩, own_new _ _ _ _, by simp⟩
  go_loopw [4, 6, 10] (fun v _ i wr => ∃ (k : Nat) (Ao : Option Addr) (m d : Nat), k ≤ n ∧ i = .int .i64 k ∧ v = .slice Ao m d ∧ GathR w wr w.heap.size (.slice Ao m d) (Root.ddV (R.take k))) (fun _ _ i _ => n - (intOf i).toNat)
  case atStart => exact ⟨0, none, 0, 0, Nat.zero_le _, rfl, rfl, R0⟩
  case round =>
    obtain ⟨k, Ao, m, d, hk, rfl, rfl, G⟩ := hrel
    clear R0
    by_cases hlt : k < n
    · obtain ⟨b, off, rfl, hr, hok⟩ := (HV.out wr G.ext).at' hlt
      have hrk := Lib.hid (take_root (R := R) (k := k) (by omega))
      have hSl := Root.dd_len (R.take k)
      rw [List.length_take] at hSl
      generalize R.getD k zeroR = x at *
      generalize Root.ddV (R.take k) = S at G hrk hSl
      obtain ⟨D, M⟩ := G.set
      have hx := G.ext
      have hown := G.own
      have hBlt := G.lt
      have hi32 : (Try.prog.info? 23).map (·.size) = some (rootC x).length := by rw [rootC_len hok]; kernel_rfl
      have R3 := range_at (w := wr) (B := wr.heap.size) (rootC x) 23 rfl
      have g1 : (k : Int) < n := by omega
      have M1 := M.ext ((Ext.refl wr).alloc (.cells (rootC x).toArray 23))
      have hlk := M1.look hok
      have HG := Lib.hid G
      have HM := Lib.hid M
      have HM1 := Lib.hid M1
      have HL := Lib.hid hlen
      clear G M M1 hlen
      by_cases hm : x ∈ S
      · rw [decide_eq_true hm] at hlk
        have HS := Lib.hid (show Root.addR S x = S by unfold Root.addR; rw [if_pos hm])
        clear hm
        go_wp2_with (first | (refine wpList_load_mid rfl 23 _ rfl _ _ rfl (rootC x) _ (rangeAt_ext hr ((by repeat (first | assumption | exact Ext.refl _ | refine Ext.alloc ?_ _ | refine Ext.drew ?_ | refine Ext.drewN ?_ _ | refine Ext.setCell ?_ (by first | (simp; done) | omega | (simp; omega)) _ | refine Ext.trans (by assumption) ?_)))) Try.underlying23 rfl hi32 ?_) | (refine wpList_store_mid rfl 23 _ _ rfl _ 0 (rootC x).toArray rfl rfl (there_at (by simp) _ (by rw [List.size_toArray, rootC_len hok]; decide)) (by rw [List.size_toArray]; exact hi32) (all_oneCell_toArray (root_one x)) ?_; rw [List.toList_toArray, setCells_at (by simp) (by rw [rootC_len hok]; rfl)]) | (refine wpList_load_mid rfl 23 _ rfl _ _ rfl (rootC x) _ R3 Try.underlying23 rfl hi32 ?_))
        go_roundw
        case rel =>
          have G' : GathR w (wr.alloc (.cells (rootC x).toArray 23)) w.heap.size (.slice Ao m d) (Root.ddV (R.take (k + 1))) := by
            rw [hrk.out, HS.out]
            exact ⟨hx.alloc _, ⟨D, HM1.out⟩, hown.alloc _, by simp; omega⟩
          first | exact ⟨k + 1, _, _, _, by omega, by go_num, rfl, G'⟩ | (refine ⟨_, _, ⟨k + 1, _, _, _, by omega, ?_, rfl, G'⟩, rfl, rfl⟩; go_num) | (refine ⟨_, ⟨k + 1, _, _, _, by omega, ?_, rfl, G'⟩, rfl⟩; go_num)
        case measure => simp [intOf]; omega
      · rw [decide_eq_false hm] at hlk
        have HS := Lib.hid (show Root.addR S x = S ++ [x] by unfold Root.addR; rw [if_neg hm])
        clear hm
        have hownm := HM1.out.own
        have he := plainElem_bool (H := Unit) Try.underlying4 true
        go_wp2_with (first | (refine wpList_load_mid rfl 23 _ rfl _ _ rfl (rootC x) _ (rangeAt_ext hr ((by repeat (first | assumption | exact Ext.refl _ | refine Ext.alloc ?_ _ | refine Ext.drew ?_ | refine Ext.drewN ?_ _ | refine Ext.setCell ?_ (by first | (simp; done) | omega | (simp; omega)) _ | refine Ext.trans (by assumption) ?_)))) Try.underlying23 rfl hi32 ?_) | (refine wpList_store_mid rfl 23 _ _ rfl _ 0 (rootC x).toArray rfl rfl (there_at (by simp) _ (by rw [List.size_toArray, rootC_len hok]; decide)) (by rw [List.size_toArray]; exact hi32) (all_oneCell_toArray (root_one x)) ?_; rw [List.toList_toArray, setCells_at (by simp) (by rw [rootC_len hok]; rfl)]) | (refine wpList_load_mid rfl 23 _ rfl _ _ rfl (rootC x) _ R3 Try.underlying23 rfl hi32 ?_) | (at_mapUpdate; refine wpList_mapUpdate_own _ rfl _ _ _ 40 rfl 23 4 keyLaw Try.underlying40 _ w.heap.size S.length D rfl hownm (by unfold maxLen; omega) _ _ (keyL x) rfl rfl (key_is hok) _ [] he ?_; intro w2 hown2 hgrow2; have M2 := HM1.out.put hok hown2; have x2 : Ext w w2 := (hx.alloc _).grown hgrow2 (fun j e => by cases e; exact Nat.le_refl _); have z2 := hgrow2.size; simp at z2; have o2 := (hown.alloc (.cells (rootC x).toArray 23)).kept hgrow2 (Or.inr (ne_own hown (by omega))); have r2 : w2.rangeAt wr.heap.size 0 (rootC x) := (fun j u hj => by rw [World.cell?_of_block (w := wr.alloc (.cells (rootC x).toArray 23)) (hgrow2.block wr.heap.size (by simp) (by simp; omega))]; exact R3 j u hj)) | (refine wpList_load_mid rfl 23 _ rfl _ _ rfl (rootC x) _ r2 Try.underlying23 rfl hi32 ?_) | (refine wpList_buildR rfl _ rfl (rootC x) rfl (rootC_len hok) _ rfl ?_) | (at_builtin; refine (wpList_app rowRoots rfl _ _ rfl (w.heap.size + 1) (.slice Ao m d) S.length (S.map rootC).flatten rfl (o2.alloc _) _ 1 _ (rootC x) rfl (src_newAt rfl (by rw [rootC_len hok]) (root_one x)) (by omega) (by simp; omega) ?_)))
        intro v4 w4 own4 grow4 _
        have x4 : Ext w w4 := (x2.alloc _).grown grow4 (fun j e => by have := (hown.lt j e).1; omega)
        have M4 := (M2.ext ((Ext.refl w2).alloc (.cells (rootC x).toArray 23))).keeps grow4 (ne_own hown (by omega))
        have z4 := grow4.size
        simp at z4
        obtain ⟨Ao4, d4, rfl⟩ := own_form' own4
        go_wp2
        go_roundw
        case rel =>
          have G' : GathR w w4 w.heap.size (.slice Ao4 (S.length + 1) d4) (Root.ddV (R.take (k + 1))) := by
            rw [hrk.out, HS.out]
            refine ⟨x4, ⟨_, by simpa using M4⟩, by rw [flat_snoc]; simpa using own4, by omega⟩
          exact ⟨k + 1, _, _, _, by omega, by go_num, rfl, G'⟩
        case measure => simp [intOf]; omega
    · have e : k = n := by omega
      subst e
      have hG : GathR w wr w.heap.size (.slice Ao m d) (Root.ddV R) := by
        have := G
        rwa [List.take_of_length_le (by omega)] at this
      have hm : (Root.ddV R).length ≤ R.length := Root.dd_len R
      have hown := hG.own
      have hx := hG.ext
      obtain ⟨v0, hv0⟩ : ∃ v0, v0 = Value.slice Ao m d := ⟨_, rfl⟩
      have hme : m = (Root.ddV R).length := by
        rcases hown.2 with ⟨e1, e2⟩ | ⟨g, cap, cur, e1, _⟩
        · obtain ⟨rfl, rfl, rfl⟩ : Ao = none ∧ m = 0 ∧ d = 0 := by simpa using e1
          omega
        · have : m = (Root.ddV R).length := by simpa using (by simpa using e1 : Ao = some ⟨g, 0, none⟩ ∧ m = (Root.ddV R).length ∧ d = cap).2.1
          exact this
      have hs := sortOwn_any (w.heap.size + 1) m d Ao (Root.ddV R) (fun r hr => HOK.out r (Root.mem_dd.1 hr)) wr (by omega) hme.symm (by rw [hme] at hown ⊢; exact hown)
      have HD := Lib.hid hx
      clear G hG hown hme hx hm hlen hk hlt
      go_wp2_with (go_at_call 21; refine hs.mono ?_)
      rintro e w1 ⟨rfl, hr1, hb1⟩
      go_wp2
      go_ret
      exact ⟨⟨_, _, _, rfl, hr1⟩, ⟨HD.out.out.trans (hb1.mono (by omega))⟩⟩
end Go.Proofs.Ytamibbcdklpncaa
