/- The contract of layer 12: Drop. -/
import Derived.Test.YtnpopepannimiaaVotePut
import Derived.Test.YtnpopepannimiaaLatOpen
import Derived.Test.YtnpopepannimiaaMapR
namespace Go.Proofs.Ytnpopepannimiaa
open Go.RowKit Go.WideShapes Go.ChangeShapes
set_option linter.unusedVariables false
set_option linter.unusedSimpArgs false








def keepL (K : List (List Int)) (x : Lat) : Lat := if x.root ∈ K then x else Lat.none
def dropL (LS : List Lat) (K : List (List Int)) (k : Nat) : List Lat := (LS.take k).map (keepL K) ++ LS.drop k
def dropV (LS : List Lat) (o : Nat) (K : List (List Int)) : List Lat := if mayV LS o = true then LS.map (keepL K) else LS
theorem keepL_ok {K : List (List Int)} {x : Lat} (h : x.Ok) : (keepL K x).Ok := by unfold keepL; split; exact h; exact Lat.none_ok
theorem dropL_len (LS : List Lat) (K : List (List Int)) {k : Nat} (h : k ≤ LS.length) : (dropL LS K k).length = LS.length := by unfold dropL; simp; omega
theorem dropL_zero (LS : List Lat) (K : List (List Int)) : dropL LS K 0 = LS := by unfold dropL; simp
theorem dropL_all (LS : List Lat) (K : List (List Int)) : dropL LS K LS.length = LS.map (keepL K) := by unfold dropL; simp
theorem dropL_get (LS : List Lat) (K : List (List Int)) {k : Nat} (h : k < LS.length) : (dropL LS K k).getD k Lat.none = LS.getD k Lat.none := by
  unfold dropL
  rw [List.getD_eq_getElem?_getD, List.getElem?_append_right (by simp; omega), List.getD_eq_getElem?_getD]
  have : k - ((LS.take k).map (keepL K)).length = 0 := by simp; omega
  rw [this, List.getElem?_drop]
  rfl
theorem dropL_succ (LS : List Lat) (K : List (List Int)) {k : Nat} (h : k < LS.length) : dropL LS K (k + 1) = (dropL LS K k).set k (keepL K (LS.getD k Lat.none)) := by
  unfold dropL
  rw [List.set_append_right _ _ (by simp; omega)]
  have e0 : k - ((LS.take k).map (keepL K)).length = 0 := by simp; omega
  rw [e0, List.take_add_one, List.map_append]
  have e1 : LS[k]? = some (LS.getD k Lat.none) := by simp [List.getD, h]
  rw [e1, List.drop_eq_getElem_cons h, List.set_cons_zero]
  simp [List.getD, h]
theorem dropL_keep (LS : List Lat) (K : List (List Int)) {k : Nat} (h : k < LS.length) (hr : (LS.getD k Lat.none).root ∈ K) : dropL LS K (k + 1) = dropL LS K k := by
  rw [dropL_succ LS K h]
  have e : keepL K (LS.getD k Lat.none) = (dropL LS K k).getD k Lat.none := by rw [dropL_get LS K h]; unfold keepL; rw [if_pos hr]
  rw [e]
  have hl := dropL_len LS K (Nat.le_of_lt h)
  apply List.ext_getElem? 
  intro j
  by_cases hj : j = k
  · subst hj
    rw [List.getElem?_set_self (by omega)]
    simp [List.getD, show j < (dropL LS K j).length by omega]
  · rw [List.getElem?_set_ne (fun e => hj e.symm)]
theorem vl_of_own {w : World} {base n c : Nat} {A : Option Addr} {LS : List Lat} (h : w.ownsRow base 34 34 (.slice A n c) n (flatL LS)) (hn : n * 48 ≤ 140737488355328) (hl : LS.length = n) (hok : ∀ x ∈ LS, x.Ok) : VL w A n c LS := by
  obtain ⟨A', c', e, h, _⟩ := VL.own h hn hl hok
  obtain ⟨rfl, rfl⟩ : A = A' ∧ c = c' := by simpa using e
  exact h
theorem BMap.setCells {w : World} {B n : Nat} {R : List (List Int)} {D : DataW Unit} (h : BMap w B n R D) {g : Nat} (hne : g ≠ B) (o : Nat) (vs : List Value) : BMap (w.setCells g o vs) B n R D := by
  induction vs generalizing w o with
  | nil => exact h
  | cons v vs ih =>
    refine ih (w := w.setCell ⟨g, o, none⟩ v) ⟨h.own.kept (row := some g) ⟨rfl, rfl, rfl, by simp, fun i hi hne' => Below.heap_setCell w ⟨g, o, none⟩ v i (fun e => hne' (by rw [e]))⟩ (by simpa using fun e => hne e.symm), h.has⟩ (o + 1)
theorem size_setCells_v (w : World) (b o : Nat) (vs : List Value) : (w.setCells b o vs).heap.size = w.heap.size := by
  induction vs generalizing w o with
  | nil => rfl
  | cons v vs ih => exact (ih (w.setCell ⟨b, o, none⟩ v) (o + 1)).trans (by simp)
/-- The world while votes are dropped. -/
structure DropR (w W : World) (g n c q Bm B5 B4 o : Nat) (LS : List Lat) (K : List (List Int)) (D : DataW Unit) : Prop where
  ext : Ext w W
  vl : VL W (some ⟨g, 0, none⟩) n c LS
  th : W.there g 0 (n * 34)
  mp : BMap W Bm q K D
  b0 : W.cell? ⟨B5, 0, none⟩ = some (.slice (some ⟨g, 0, none⟩) n c)
  b1 : W.cell? ⟨B5, 1, none⟩ = some (.int .u64 o)
  o0 : W.cell? ⟨B4, 0, none⟩ = some (.slice none 0 0)
  o1 : W.cell? ⟨B4, 1, none⟩ = some (.int .u64 0)
  of : ∀ j, W.frozen? ⟨B4, j, none⟩ = false
theorem there_ext' {W W' : World} {b o k : Nat} (h : W.there b o k) (hx : Ext W W') : W'.there b o k := fun j hj => by
  obtain ⟨h1, h2⟩ := h j hj
  obtain ⟨v, hv⟩ := Option.isSome_iff_exists.1 h1
  refine ⟨by rw [hx.cell hv]; rfl, ?_⟩
  have hlt := lt_of_cell hv
  rw [← h2]
  have hb : W'.heap[b]? = W.heap[b]? := hx.out.block b hlt
  unfold World.frozen?
  simp only [hb]
theorem DropR.grow {w W W' : World} {g n c q Bm B5 B4 o : Nat} {LS : List Lat} {K : List (List Int)} {D : DataW Unit} (h : DropR w W g n c q Bm B5 B4 o LS K D) (hx : Ext W W') : DropR w W' g n c q Bm B5 B4 o LS K D :=
  ⟨h.ext.trans hx, h.vl.ext hx, there_ext' h.th hx, h.mp.ext hx, hx.cell h.b0, hx.cell h.b1, hx.cell h.o0, hx.cell h.o1, hx.free h.o0 h.of⟩
theorem DropR.set {w W : World} {g n c q Bm B5 B4 o : Nat} {LS : List Lat} {K : List (List Int)} {D : DataW Unit} (h : DropR w W g n c q Bm B5 B4 o LS K D) {k : Nat} (hk : k < n) (hg : w.heap.size ≤ g) (h1 : g ≠ Bm) (h2 : B5 ≠ g) (h3 : B4 ≠ g) : DropR w (W.setCells g (k * 34) (Lat.cells Lat.none)) g n c q Bm B5 B4 o (LS.set k Lat.none) K D := by
  have ht : W.there g (0 + k * 34) 34 := fun j hj => by
    have := h.th (k * 34 + j) (by have := Nat.mul_le_mul_right 34 (show k + 1 ≤ n by omega); rw [Nat.succ_mul] at this; omega)
    rwa [show 0 + (k * 34 + j) = 0 + k * 34 + j by omega] at this
  have hs := h.vl.row.set hk (Lat.len Lat.none_ok) (Lat.one _) ht
  simp only [Nat.zero_add] at hs
  refine ⟨Ext.setCells hg _ _ h.ext, ⟨by rw [List.map_set]; exact hs, fun y hy => ?_, h.vl.bytes⟩, World.there_setCells h.th _ _ _, h.mp.setCells h1 _ _, cell_apart h.b0 h2, cell_apart h.b1 h2, cell_apart h.o0 h3, cell_apart h.o1 h3, fun j => by rw [World.frozen?_setCells]; exact h.of j⟩
  rcases List.mem_or_eq_of_mem_set hy with hy | rfl
  · exact h.vl.ok y hy
  · exact Lat.none_ok
theorem take_next {KS : List (List Int)} {k : Nat} (h : k < KS.length) : KS.take (k + 1) = KS.take k ++ [KS.getD k zeroR] := by
  rw [List.take_add_one]; simp [List.getD, h]

set_option maxRecDepth 100000 in
set_option maxHeartbeats 1000000 in
theorem drop_any (A : Option Addr) (n c : Nat) (ot : Nat) (ho : ot < 18446744073709551616) (LS : List Lat) (KA : Option Addr) (kn kc : Nat) (KS : List (List Int)) (w : World) (h : VL w A n c LS) (hK : RL w KA kn kc KS) :
    Calls Try.prog 16 #[.agg #[.slice A n c, .int .u64 ot], .slice KA kn kc] w fun e w' => (∃ A2 c2, e = .returned (.agg #[.slice A2 n c2, .int .u64 ot]) ∧ VL w' A2 n c2 (dropV LS ot KS)) ∧ Ext w w' := by
  have hlen := h.len
  have HBY := Lib.hid h.bytes
  have HOKS := Lib.hid h.ok
  have HLE := Lib.hid hlen
  have HO := Lib.hid (fun W (k : Ext w W) => own_any A n c ot LS W (h.ext k))
  have HM := Lib.hid (fun b (hb : mayV LS ot = b) W (k : Ext w W) => (by subst hb; exact vmay_any A n c ot ho LS W (h.ext k) : Calls Try.prog 12 #[.agg #[.slice A n c, .int .u64 ot]] W fun e w' => e = .returned (.bool b) ∧ Ext W w'))
  have HK := Lib.hid (fun W (k : Ext w W) => hK.ext k)
  have HKL := Lib.hid hK.len
  clear h hK
  cases hmb : mayV LS ot with
  | false =>
    have HV : Hid (dropV LS ot KS = LS) := by show _ = _; unfold dropV; rw [hmb, if_neg (by simp)]
    go_enter Try.func16, Try.ntmps16
    go_wp2_with fail
    refine (HO.out _ ((by repeat (first | assumption | exact Ext.refl _ | refine Ext.alloc ?_ _ | refine Ext.drew ?_ | refine Ext.drewN ?_ _ | refine Ext.setCell ?_ (by first | (simp; done) | omega | (simp; omega)) _ | refine Ext.trans (by assumption) ?_)))).mono ?_
    rintro e w1 ⟨⟨A2, c2, rfl, hown⟩, hx1⟩
    have k1 : Ext w w1 := Ext.trans ((by repeat (first | assumption | exact Ext.refl _ | refine Ext.alloc ?_ _ | refine Ext.drew ?_ | refine Ext.drewN ?_ _ | refine Ext.setCell ?_ (by first | (simp; done) | omega | (simp; omega)) _ | refine Ext.trans (by assumption) ?_))) hx1
    obtain ⟨v0, v1, vf⟩ := hx1.box2 (B := w.heap.size) (a := .slice A n c) (b := .int .u64 ot) (by first | (simp; done) | (simp (maxDischargeDepth := 7) [go_sem]; done)) (by first | (simp; done) | (simp (maxDischargeDepth := 7) [go_sem]; done)) (by first | (simp; done) | (simp (maxDischargeDepth := 7) [go_sem]; done))
    have vl := lt_of_cell v0
    obtain ⟨u0, u1, uf⟩ := hx1.box2 (B := w.heap.size + 1) (a := .slice none 0 0) (b := .int .u64 0) (by first | (simp; done) | (simp (maxDischargeDepth := 7) [go_sem]; done)) (by first | (simp; done) | (simp (maxDischargeDepth := 7) [go_sem]; done)) (by first | (simp; done) | (simp (maxDischargeDepth := 7) [go_sem]; done))
    have ul := lt_of_cell u0
    replace hown := own_base hown (b := w.heap.size + 2) (by simp)
    go_wp2_with fail
    refine (HM.out false hmb _ ((by repeat (first | assumption | exact Ext.refl _ | refine Ext.alloc ?_ _ | refine Ext.drew ?_ | refine Ext.drewN ?_ _ | refine Ext.setCell ?_ (by first | (simp; done) | omega | (simp; omega)) _ | refine Ext.trans (by assumption) ?_)))).mono ?_
    rintro e w2 ⟨rfl, hx2⟩
    have k2 : Ext w1 w2 := Ext.trans ((by repeat (first | assumption | exact Ext.refl _ | refine Ext.alloc ?_ _ | refine Ext.drew ?_ | refine Ext.drewN ?_ _ | refine Ext.setCell ?_ (by first | (simp; done) | omega | (simp; omega)) _ | refine Ext.trans (by assumption) ?_))) hx2
    obtain ⟨o0, o1, of⟩ := hx2.box2 (B := w1.heap.size) (a := .slice A2 n c2) (b := .int .u64 ot) (by first | (simp; done) | (simp (maxDischargeDepth := 7) [go_sem]; done)) (by first | (simp; done) | (simp (maxDischargeDepth := 7) [go_sem]; done)) (by first | (simp; done) | (simp (maxDischargeDepth := 7) [go_sem]; done))
    have ol := lt_of_cell o0
    replace vf := k2.free v0 vf
    replace v0 := k2.cell v0
    replace v1 := k2.cell v1
    replace vl := lt_of_cell v0
    replace uf := k2.free u0 uf
    replace u0 := k2.cell u0
    replace u1 := k2.cell u1
    replace ul := lt_of_cell u0
    have hown2 := own_ext hown k2
    have HOW := Lib.hid hown2
    clear hown hown2
    go_wp2
    refine bodyPost_ret (v := .agg #[.slice A2 n c2, .int .u64 ot]) (by simp (maxDischargeDepth := 7) [results, Try.results16, go_sem, u0, u1, uf]) rfl ⟨⟨_, _, rfl, ?_⟩, ?_⟩
    · rw [HV.out]
      exact vl_of_own (own_setCell (own_setCell HOW.out (by show w.heap.size + 1 < w.heap.size + 2; omega) _) (by show w.heap.size + 1 < w.heap.size + 2; omega) _) HBY.out HLE.out HOKS.out
    · exact ((k1.trans k2).setCell (by show w.heap.size ≤ w.heap.size + 1; omega) _).setCell (by show w.heap.size ≤ w.heap.size + 1; omega) _
  | true =>
    have HV : Hid (dropV LS ot KS = LS.map (keepL KS)) := by show _ = _; unfold dropV; rw [if_pos hmb]
    have hmi := mayV_iff.1 hmb
    have hn1 : 0 < n := by omega
    have hn8 : n ≤ 8 := by omega
    have hmm := @run_makeMap Try.prog
    go_enter Try.func16, Try.ntmps16
    go_wp2_with fail
    refine (HO.out _ ((by repeat (first | assumption | exact Ext.refl _ | refine Ext.alloc ?_ _ | refine Ext.drew ?_ | refine Ext.drewN ?_ _ | refine Ext.setCell ?_ (by first | (simp; done) | omega | (simp; omega)) _ | refine Ext.trans (by assumption) ?_)))).mono ?_
    rintro e w1 ⟨⟨A2, c2, rfl, hown⟩, hx1⟩
    have k1 : Ext w w1 := Ext.trans ((by repeat (first | assumption | exact Ext.refl _ | refine Ext.alloc ?_ _ | refine Ext.drew ?_ | refine Ext.drewN ?_ _ | refine Ext.setCell ?_ (by first | (simp; done) | omega | (simp; omega)) _ | refine Ext.trans (by assumption) ?_))) hx1
    obtain ⟨v0, v1, vf⟩ := hx1.box2 (B := w.heap.size) (a := .slice A n c) (b := .int .u64 ot) (by first | (simp; done) | (simp (maxDischargeDepth := 7) [go_sem]; done)) (by first | (simp; done) | (simp (maxDischargeDepth := 7) [go_sem]; done)) (by first | (simp; done) | (simp (maxDischargeDepth := 7) [go_sem]; done))
    have vl := lt_of_cell v0
    obtain ⟨u0, u1, uf⟩ := hx1.box2 (B := w.heap.size + 1) (a := .slice none 0 0) (b := .int .u64 0) (by first | (simp; done) | (simp (maxDischargeDepth := 7) [go_sem]; done)) (by first | (simp; done) | (simp (maxDischargeDepth := 7) [go_sem]; done)) (by first | (simp; done) | (simp (maxDischargeDepth := 7) [go_sem]; done))
    have ul := lt_of_cell u0
    replace hown := own_base hown (b := w.heap.size + 2) (by simp)
    go_wp2_with fail
    refine (HM.out true hmb _ ((by repeat (first | assumption | exact Ext.refl _ | refine Ext.alloc ?_ _ | refine Ext.drew ?_ | refine Ext.drewN ?_ _ | refine Ext.setCell ?_ (by first | (simp; done) | omega | (simp; omega)) _ | refine Ext.trans (by assumption) ?_)))).mono ?_
    rintro e w2 ⟨rfl, hx2⟩
    have k2 : Ext w1 w2 := Ext.trans ((by repeat (first | assumption | exact Ext.refl _ | refine Ext.alloc ?_ _ | refine Ext.drew ?_ | refine Ext.drewN ?_ _ | refine Ext.setCell ?_ (by first | (simp; done) | omega | (simp; omega)) _ | refine Ext.trans (by assumption) ?_))) hx2
    obtain ⟨o0, o1, of⟩ := hx2.box2 (B := w1.heap.size) (a := .slice A2 n c2) (b := .int .u64 ot) (by first | (simp; done) | (simp (maxDischargeDepth := 7) [go_sem]; done)) (by first | (simp; done) | (simp (maxDischargeDepth := 7) [go_sem]; done)) (by first | (simp; done) | (simp (maxDischargeDepth := 7) [go_sem]; done))
    have ol := lt_of_cell o0
    replace vf := k2.free v0 vf
    replace v0 := k2.cell v0
    replace v1 := k2.cell v1
    replace vl := lt_of_cell v0
    replace uf := k2.free u0 uf
    replace u0 := k2.cell u0
    replace u1 := k2.cell u1
    replace ul := lt_of_cell u0
    have hown2 := own_ext hown k2
    obtain ⟨g, rfl⟩ : ∃ g, A2 = some ⟨g, 0, none⟩ := by
      rcases hown2.2 with ⟨_, h0⟩ | ⟨g, cap, cur, e', _⟩
      · omega
      · exact ⟨g, by simpa using (Value.slice.inj e').1⟩
    have hg1 := hown.lt g rfl
    have hgl : w.heap.size + 2 ≤ g := own_from hown g rfl
    have hth : w2.there g 0 (n * 34) := own_there hown2 (by omega)
    have hvl := vl_of_own hown2 HBY.out HLE.out HOKS.out
    have hkroom := (HK.out _ (k1.trans k2)).row.room
    clear HO HM hown hown2 hmb hmi
    go_wp2
    have M0 : ∃ D, BMap (w2.alloc (.map #[] 0)) w2.heap.size 0 (KS.take 0) D := ⟨_, BMap.made w2⟩
    go_loopw [8, 20] (fun _ i wr => ∃ k : Nat, k ≤ kn ∧ i = .int .i64 k ∧ (∃ D, BMap wr w2.heap.size k (KS.take k) D) ∧ Ext w2 wr) (fun _ i _ => kn - (intOf i).toNat)
    case atStart => exact ⟨0, Nat.zero_le _, rfl, M0, (by repeat (first | assumption | exact Ext.refl _ | refine Ext.alloc ?_ _ | refine Ext.drew ?_ | refine Ext.drewN ?_ _ | refine Ext.setCell ?_ (by first | (simp; done) | omega | (simp; omega)) _ | refine Ext.trans (by assumption) ?_))⟩
    case round =>
      obtain ⟨k, hk, rfl, ⟨D, M⟩, hx⟩ := hrel
      clear M0
      by_cases hlt : k < kn
      · obtain ⟨b, off, rfl, hr, hok⟩ := (HK.out wr ((k1.trans k2).trans hx)).at' hlt
        have hrk := Lib.hid (take_next (KS := KS) (k := k) (by rw [HKL.out]; exact hlt))
        generalize KS.getD k zeroR = x at *
        have hi32 : (Try.prog.info? 32).map (·.size) = some (rootC x).length := by rw [rootC_len hok]; kernel_rfl
        have hown := M.own
        have HM := Lib.hid M
        have R3 := range_at (w := wr) (B := wr.heap.size) (rootC x) 32 rfl
        have g1 : (k : Int) < kn := by omega
        have he := plainElem_bool (H := Unit) Try.underlying4 true
        have hz := hx.size
        clear M
        go_wp2_with (first | (refine wpList_load_mid rfl 32 _ rfl _ _ rfl (rootC x) _ (rangeAt_ext hr ((by repeat (first | assumption | exact Ext.refl _ | refine Ext.alloc ?_ _ | refine Ext.drew ?_ | refine Ext.drewN ?_ _ | refine Ext.setCell ?_ (by first | (simp; done) | omega | (simp; omega)) _ | refine Ext.trans (by assumption) ?_)))) Try.underlying32 rfl hi32 ?_) | (refine wpList_store_mid rfl 32 _ _ rfl _ 0 (rootC x).toArray rfl rfl (there_at (by simp) _ (by rw [List.size_toArray, rootC_len hok]; decide)) (by rw [List.size_toArray]; exact hi32) (all_oneCell_toArray (root_one x)) ?_; rw [List.toList_toArray, setCells_at (by simp) (by rw [rootC_len hok]; rfl)]) | (refine wpList_load_mid rfl 32 _ rfl _ _ rfl (rootC x) _ R3 Try.underlying32 rfl hi32 ?_) | (at_mapUpdate; refine wpList_mapUpdate_own _ rfl _ _ _ 53 rfl 32 4 keyLaw Try.underlying53 _ w2.heap.size k D rfl (hown.alloc _) (by unfold maxLen; omega) _ _ (keyL x) rfl rfl (key_is hok) _ [] he ?_; intro w3 hown3 hgrow3))
        have hx3 : Ext w2 w3 := (hx.alloc _).grown hgrow3 (fun j e => by cases e; exact Nat.le_refl _)
        go_roundw
        case rel =>
          have M3 : ∃ D, BMap w3 w2.heap.size (k + 1) (KS.take (k + 1)) D := ⟨_, by
            rw [hrk.out]
            exact HM.out.put (w' := w3) hok hown3⟩
          first | exact ⟨k + 1, by omega, by go_num, M3, hx3⟩ | (refine ⟨_, _, ⟨k + 1, by omega, ?_, M3, hx3⟩, rfl, rfl⟩; go_num)
        case measure => simp [intOf]; omega
      · have e : k = kn := by omega
        subst e
        rw [show KS.take k = KS by rw [List.take_of_length_le (by rw [HKL.out]; omega)]] at M
        have hs1 := hx1.size
        have hs2 := hx2.size
        have hsx := hx.size
        simp at hs1 hs2 hsx
        have R : DropR w wr g n c2 k w2.heap.size w1.heap.size (w.heap.size + 1) ot (dropL LS KS 0) KS D := by
          rw [dropL_zero]
          exact ⟨(k1.trans k2).trans hx, hvl.ext hx, there_ext' hth hx, M, hx.cell o0, hx.cell o1, hx.cell u0, hx.cell u1, hx.free u0 uf⟩
        have n1 : g ≠ w2.heap.size := by omega
        have n2 : w1.heap.size ≠ g := by omega
        have n3 : w.heap.size + 1 ≠ g := by omega
        have n4 : w.heap.size ≤ g := by omega
        have z1 : w1.heap.size < wr.heap.size := by omega
        have z2 : w.heap.size + 1 < wr.heap.size := by omega
        have z3 : g < wr.heap.size := by omega
        have HLB := Lib.hid (show w.heap.size ≤ w.heap.size + 1 by omega)
        clear HOKS hx M hx1 hx2 k1 k2 o0 o1 of u0 u1 uf v0 v1 vf hvl hth HK HKL hs1 hs2 hsx hg1 hgl hkroom
        generalize w.heap.size + 1 = B4 at *
        generalize w1.heap.size = B5 at *
        generalize w2.heap.size = Bm at *
        obtain ⟨w5, e5⟩ : ∃ w5, w5 = wr := ⟨_, rfl⟩
        subst e5
        have o0 := R.b0
        have o1 := R.b1
        go_wp2
        go_loopw [9, 10, 30] (fun _ _ i wr => ∃ j : Nat, j ≤ n ∧ i = .int .i64 j ∧ DropR w wr g n c2 k Bm B5 B4 ot (dropL LS KS j) KS D ∧ w5.heap.size ≤ wr.heap.size) (fun _ _ i _ => n - (intOf i).toNat)
        case atStart => exact ⟨0, Nat.zero_le _, rfl, R, Nat.le_refl _⟩
        case round =>
          clear R o0 o1
          obtain ⟨j, hj, rfl, R, hsz⟩ := hrel
          have z1 : B5 < wr.heap.size := by omega
          have z2 : B4 < wr.heap.size := by omega
          have z3 : g < wr.heap.size := by omega
          have o0 := R.b0
          have o1 := R.b1
          by_cases hlt2 : j < n
          · obtain ⟨b, off, eA, hr, hok⟩ := R.vl.at' hlt2
            obtain ⟨rfl, rfl⟩ : g = b ∧ 0 = off := by simpa using eA
            clear eA
            rw [Nat.zero_add] at hr
            have hget := dropL_get LS KS (k := j) (by omega)
            rw [hget] at hr hok
            have HG := Lib.hid (show LS.getD j Lat.none = LS.getD j Lat.none from rfl)
            have HSU := Lib.hid (dropL_succ LS KS (k := j) (by omega))
            have HKE := Lib.hid (fun hr => dropL_keep LS KS (k := j) (by omega) hr)
            clear hget
            generalize LS.getD j Lat.none = x at *
            have hi34 : (Try.prog.info? 34).map (·.size) = some x.cells.length := by rw [Lat.len hok]; kernel_rfl
            have hi32 : (Try.prog.info? 32).map (·.size) = some (rootC x.root).length := by rw [rootC_len hok.1]; kernel_rfl
            have hin : (Try.prog.info? 34).map (·.size) = some (Lat.cells Lat.none).toArray.size := by rw [List.size_toArray, Lat.len Lat.none_ok]; kernel_rfl
            have g1 : (j : Int) < n := by omega
            have R3 := range_at (w := wr) (B := wr.heap.size) x.cells 34 rfl
            have DR := rangeAt_part R3 (k := 1) rfl
            simp only [Nat.zero_add] at DR
            have RG := R.grow ((Ext.refl wr).alloc (.cells x.cells.toArray 34))
            have hlk := RG.mp.look hok.1
            have hth : (wr.alloc (.cells x.cells.toArray 34)).there g (j * 34) (Lat.cells Lat.none).toArray.size := fun i hi => by
              rw [List.size_toArray, Lat.len Lat.none_ok] at hi
              have := RG.th (j * 34 + i) (by have := Nat.mul_le_mul_right 34 (show j + 1 ≤ n by omega); rw [Nat.succ_mul] at this; omega)
              rwa [Nat.zero_add] at this
            by_cases hm : x.root ∈ KS
            · rw [decide_eq_true hm] at hlk
              have HR := Lib.hid RG
              have HR0 := Lib.hid R
              clear R RG
              go_wp2_with (first | (refine wpList_load_mid rfl 34 _ rfl _ _ rfl x.cells _ (rangeAt_ext hr ((by repeat (first | assumption | exact Ext.refl _ | refine Ext.alloc ?_ _ | refine Ext.drew ?_ | refine Ext.drewN ?_ _ | refine Ext.setCell ?_ (by first | (simp; done) | omega | (simp; omega)) _ | refine Ext.trans (by assumption) ?_)))) Try.underlying34 rfl hi34 ?_) | (refine wpList_store_mid rfl 34 _ _ rfl _ 0 x.cells.toArray rfl rfl (there_at (by simp) _ (by rw [List.size_toArray, Lat.len hok]; decide)) (by rw [List.size_toArray]; exact hi34) (all_oneCell_toArray (Lat.one x)) ?_; rw [List.toList_toArray, setCells_at (by simp) (by rw [Lat.len hok]; rfl)]) | (refine wpList_load_mid rfl 32 _ rfl _ _ rfl (rootC x.root) _ DR Try.underlying32 rfl hi32 ?_))
              go_roundw
              case rel =>
                have R' : DropR w (wr.alloc (.cells x.cells.toArray 34)) g n c2 k Bm B5 B4 ot (dropL LS KS (j + 1)) KS D := by rw [HKE.out hm]; exact HR.out
                first | exact ⟨j + 1, by omega, by go_num, R', by simp; omega⟩ | (refine ⟨_, _, _, ⟨j + 1, by omega, ?_, R', by simp; omega⟩, rfl, rfl, rfl⟩; go_num)
              case measure => simp [intOf]; omega
            · rw [decide_eq_false hm] at hlk
              have HR := Lib.hid RG
              have HR0 := Lib.hid R
              clear R RG
              go_upto_region 14 with (first | (refine wpList_load_mid rfl 34 _ rfl _ _ rfl x.cells _ (rangeAt_ext hr ((by repeat (first | assumption | exact Ext.refl _ | refine Ext.alloc ?_ _ | refine Ext.drew ?_ | refine Ext.drewN ?_ _ | refine Ext.setCell ?_ (by first | (simp; done) | omega | (simp; omega)) _ | refine Ext.trans (by assumption) ?_)))) Try.underlying34 rfl hi34 ?_) | (refine wpList_store_mid rfl 34 _ _ rfl _ 0 x.cells.toArray rfl rfl (there_at (by simp) _ (by rw [List.size_toArray, Lat.len hok]; decide)) (by rw [List.size_toArray]; exact hi34) (all_oneCell_toArray (Lat.one x)) ?_; rw [List.toList_toArray, setCells_at (by simp) (by rw [Lat.len hok]; rfl)]) | (refine wpList_load_mid rfl 32 _ rfl _ _ rfl (rootC x.root) _ DR Try.underlying32 rfl hi32 ?_))
              have p0 := HR.out.b0
              have p1 := HR.out.b1
              have hgt : g < (wr.alloc (.cells x.cells.toArray 34)).heap.size := by simp; omega
              have hb5 : B5 < (wr.alloc (.cells x.cells.toArray 34)).heap.size := by simp; omega
              have hsz6 : w5.heap.size ≤ (wr.alloc (.cells x.cells.toArray 34)).heap.size := by simp; omega
              clear hlk hr R3 DR HR0 o0 o1
              generalize (wr.alloc (.cells x.cells.toArray 34)) = w6 at *
              go_upto_region 15 with (refine wpList_store_mid rfl 34 _ _ rfl g (j * 34) (Lat.cells Lat.none).toArray rfl rfl hth hin (all_oneCell_toArray (Lat.one _)) ?_)
              go_wp2
              go_roundw
              case rel =>
                have R' : DropR w (w6.setCells g (j * 34) (Lat.cells Lat.none)) g n c2 k Bm B5 B4 ot (dropL LS KS (j + 1)) KS D := by
                  rw [HSU.out, show keepL KS x = Lat.none by unfold keepL; rw [if_neg hm]]
                  exact HR.out.set hlt2 n4 n1 n2 n3
                first | exact ⟨j + 1, by omega, by go_num, R', by rw [size_setCells_v]; omega⟩ | (refine ⟨_, _, _, ⟨j + 1, by omega, ?_, R', by rw [size_setCells_v]; omega⟩, rfl, rfl, rfl⟩; go_num)
              case measure => simp [intOf]; omega
          · have e : j = n := by omega
            subst e
            have ed : dropL LS KS j = LS.map (keepL KS) := by have := dropL_all LS KS; rwa [HLE.out] at this
            rw [ed] at R
            have hu0 := R.o0
            have hu1 := R.o1
            have huf := R.of
            have HR := Lib.hid R
            clear R
            go_wp2
            refine bodyPost_ret (v := .agg #[.slice (some ⟨g, 0, none⟩) j c2, .int .u64 ot]) (by simp (maxDischargeDepth := 7) [results, Try.results16, go_sem, hu0, hu1, huf]) rfl ⟨⟨_, _, rfl, ?_⟩, ?_⟩
            · rw [HV.out]
              exact (HR.out.vl.setCell (fun ad e => by cases e; exact fun h' => n3 h'.symm) _).setCell (fun ad e => by cases e; exact fun h' => n3 h'.symm) _
            · exact (HR.out.ext.setCell HLB.out _).setCell HLB.out _
end Go.Proofs.Ytnpopepannimiaa
