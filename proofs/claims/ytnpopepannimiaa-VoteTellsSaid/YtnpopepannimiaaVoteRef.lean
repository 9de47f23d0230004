/- The document's answer of layer 12: New, with. -/
import Derived.Test.YtnpopepannimiaaVoteRefMay
namespace Go.Proofs.Ytnpopepannimiaa
open Go.RowKit Go.WideShapes Go.ChangeShapes
set_option linter.unusedVariables false
set_option linter.unusedSimpArgs false








set_option maxHeartbeats 1000000 in
theorem rvnew_any (k : Int) (w : World) :
    Calls Try.prog 18 #[.int .i64 k] w fun e w' => (∃ A n c, e = .returned (.tuple #[.agg #[.slice A n c, .int .u64 0], .bool (newVB k)]) ∧ VL w' A n c (if newVB k then List.replicate k.toNat Lat.none else [])) ∧ Ext w w' := by
  by_cases h1 : k < 1
  · have hb : newVB k = false := by unfold newVB; rw [decide_eq_false]; omega
    rw [hb]
    go_enter Try.func18, Try.ntmps18
    go_wp2
    refine bodyPost_ret (v := .tuple #[.agg #[.slice none 0 0, .int .u64 0], .bool false]) (by simp (maxDischargeDepth := 7) [results, Try.results18, go_sem]) rfl ⟨⟨none, 0, 0, rfl, VL.nil_mk _⟩, (by repeat (first | assumption | exact Ext.refl _ | refine Ext.alloc ?_ _ | refine Ext.drew ?_ | refine Ext.drewN ?_ _ | refine Ext.setCell ?_ (by first | (simp; done) | omega | (simp; omega)) _ | refine Ext.trans (by assumption) ?_))⟩
  · by_cases h8 : 8 < k
    · have hb : newVB k = false := by unfold newVB; rw [decide_eq_false]; omega
      rw [hb]
      go_enter Try.func18, Try.ntmps18
      go_wp2
      refine bodyPost_ret (v := .tuple #[.agg #[.slice none 0 0, .int .u64 0], .bool false]) (by simp (maxDischargeDepth := 7) [results, Try.results18, go_sem]) rfl ⟨⟨none, 0, 0, rfl, VL.nil_mk _⟩, (by repeat (first | assumption | exact Ext.refl _ | refine Ext.alloc ?_ _ | refine Ext.drew ?_ | refine Ext.drewN ?_ _ | refine Ext.setCell ?_ (by first | (simp; done) | omega | (simp; omega)) _ | refine Ext.trans (by assumption) ?_))⟩
    · have hb : newVB k = true := by unfold newVB; rw [decide_eq_true]; omega
      rw [hb]
      obtain ⟨n, rfl⟩ := Int.eq_ofNat_of_zero_le (show 0 ≤ k by omega)
      obtain ⟨i0, hi, hz0, hz1, hz2⟩ := info_parts (show (Try.prog.info? 34).map (fun i => (i.zero, i.size, i.bytes)) = some (some (.agg Lat.none.cells.toArray), 34, 48) by kernel_rfl)
      have hmk := fun W => run_makeSlice (P := Try.prog) W 25 34 i0 _ Try.underlying25 hi hz0 .i64 .i64 (n : Int) (n : Int) (by omega) (Int.le_refl _) (by rw [hz1]; omega) (by rw [hz2]; omega) (by omega)
      rw [hz1] at hmk
      simp only [Int.toNat_natCast, Value.cells] at hmk
      obtain ⟨cs, hcs⟩ : ∃ cs, madeCells Lat.none.cells.toArray (n * 34) = cs := ⟨_, rfl⟩
      simp only [hcs] at hmk
      have hfl : cs.toList = flatL (List.replicate n Lat.none) := by
        rw [← hcs]
        unfold flatL
        rw [List.map_replicate]
        exact made_flat (by omega) (Lat.len Lat.none_ok) n
      have HF := Lib.hid hfl
      have hsz : cs.size = n * 34 := by rw [← hcs]; exact size_madeCells _ _
      have HZ := Lib.hid hsz
      clear hfl hsz hcs hi hz0 hz1 hz2
      go_enter Try.func18, Try.ntmps18
      go_wp2
      refine bodyPost_ret (v := .tuple #[.agg #[.slice (some ⟨w.heap.size + 1, 0, none⟩) n n, .int .u64 0], .bool true]) (by simp (maxDischargeDepth := 7) [results, Try.results18, go_sem]) rfl ⟨⟨_, _, _, rfl, ?_⟩, (by repeat (first | assumption | exact Ext.refl _ | refine Ext.alloc ?_ _ | refine Ext.drew ?_ | refine Ext.drewN ?_ _ | refine Ext.setCell ?_ (by first | (simp; done) | omega | (simp; omega)) _ | refine Ext.trans (by assumption) ?_))⟩
      exact VL.made (by simp) HZ.out HF.out (by omega) (by simp) (fun x hx => by rw [(List.mem_replicate.1 hx).2]; exact Lat.none_ok)
set_option maxHeartbeats 2000000 in
theorem rwith_any (A : Option Addr) (n c : Nat) (out : Nat) (LS : List Lat) (k : Nat) (hk : k < n) (x : Lat) (hxo : x.Ok) (w : World) (h : VL w A n c LS) :
    Calls Try.prog 25 #[.agg #[.slice A n c, .int .u64 out], .int .i64 k, .agg x.cells.toArray] w fun e w' => (∃ A2 c2, e = .returned (.agg #[.slice A2 n c2, .int .u64 out]) ∧ VL w' A2 n c2 (LS.set k x) ∧ ∀ ad, A2 = some ad → w.heap.size ≤ ad.block) ∧ Ext w w' := by
  have hlen := h.len
  have hbytes := h.bytes
  have hok := h.ok
  have hx34 := Lat.len hxo
  have hi34 : (Try.prog.info? 34).map (·.size) = some x.cells.length := by rw [hx34]; kernel_rfl
  have g1 : (k : Int) < n := by omega
  obtain ⟨w0, hw0⟩ : ∃ w0, ((w.alloc (.cells #[.slice A n c, .int .u64 out] 28)).alloc (.cells x.cells.toArray 34)).alloc (.cells #[.slice none 0 0, .int .u64 0] 28) = w0 := ⟨_, rfl⟩
  have k0 : Ext w w0 := by rw [← hw0]; exact (by repeat (first | assumption | exact Ext.refl _ | refine Ext.alloc ?_ _ | refine Ext.drew ?_ | refine Ext.drewN ?_ _ | refine Ext.setCell ?_ (by first | (simp; done) | omega | (simp; omega)) _ | refine Ext.trans (by assumption) ?_))
  have rX : w0.rangeAt (w.heap.size + 1) 0 x.cells := by rw [← hw0]; exact rangeAt_ext (range_at (w := w.alloc _) (B := w.heap.size + 1) x.cells 34 (by simp)) ((Ext.refl _).alloc _)
  have u0 : w0.cell? ⟨w.heap.size, 0, none⟩ = some (.slice A n c) := by rw [← hw0]; simp (maxDischargeDepth := 7) [go_sem]
  have u1 : w0.cell? ⟨w.heap.size, 1, none⟩ = some (.int .u64 out) := by rw [← hw0]; simp (maxDischargeDepth := 7) [go_sem]
  have uf : ∀ o, w0.frozen? ⟨w.heap.size, o, none⟩ = false := fun o => by rw [← hw0]; simp (maxDischargeDepth := 7) [go_sem]
  have v0 : w0.cell? ⟨w.heap.size + 1 + 1, 0, none⟩ = some (.slice none 0 0) := by rw [← hw0]; simp (maxDischargeDepth := 7) [go_sem]
  have v1 : w0.cell? ⟨w.heap.size + 1 + 1, 1, none⟩ = some (.int .u64 0) := by rw [← hw0]; simp (maxDischargeDepth := 7) [go_sem]
  have vf : ∀ o, w0.frozen? ⟨w.heap.size + 1 + 1, o, none⟩ = false := fun o => by rw [← hw0]; simp (maxDischargeDepth := 7) [go_sem]
  have hz : w0.heap.size = w.heap.size + 1 + 1 + 1 := by rw [← hw0]; simp
  have HSRC := Lib.hid (wide_src (by omega) (h.ext k0).row)
  clear h
  go_enter Try.func25, Try.ntmps25
  go_upto_region 1 with fail
  try rw [hw0]
  clear hw0
  go_upto_region 2 with (at_builtin; refine wpList_app rowLats rfl _ _ rfl w0.heap.size (.slice none 0 0) 0 [] rfl (World.ownsRow_nil _ _ _ _) A n c (flatL LS) rfl HSRC.out (by omega) (Nat.le_refl _) ?_; intro q2 w2 hown2 hgrow2 hat2; obtain ⟨A2, c2, rfl⟩ := own_form' hown2; have k2 := (Ext.refl w0).grown hgrow2 (fun j e => by cases e); have x0 := k2.cell u0; have xf := k2.free u0 uf)
  rw [Nat.zero_add, List.nil_append] at hown2
  have hown3 := own_setCell (a := ⟨w.heap.size, 0, none⟩) hown2 (by show w.heap.size < w0.heap.size; omega) (.slice A2 n c2)
  obtain ⟨g, rfl⟩ : ∃ g, A2 = some ⟨g, 0, none⟩ := by
    rcases hown2.2 with ⟨_, h0⟩ | ⟨g, cap, cur, e', _⟩
    · omega
    · exact ⟨g, by simpa using (Value.slice.inj e').1⟩
  have hg := (hown2.lt g rfl).1
  have k3 : Ext w (w2.setCell ⟨w.heap.size, 0, none⟩ (.slice (some ⟨g, 0, none⟩) n c2)) := (k0.trans k2).setCell (p := ⟨w.heap.size, 0, none⟩) (Nat.le_refl _) _
  have c0 : (w2.setCell ⟨w.heap.size, 0, none⟩ (.slice (some ⟨g, 0, none⟩) n c2)).cell? ⟨w.heap.size, 0, none⟩ = some (.slice (some ⟨g, 0, none⟩) n c2) := World.cell?_setCell_same' _ _ _ (by rw [x0]; rfl)
  have c1 : (w2.setCell ⟨w.heap.size, 0, none⟩ (.slice (some ⟨g, 0, none⟩) n c2)).cell? ⟨w.heap.size, 1, none⟩ = some (.int .u64 out) := (World.cell?_setCell_other _ _ _ _ (by simp)).trans (k2.cell u1)
  have y0 : (w2.setCell ⟨w.heap.size, 0, none⟩ (.slice (some ⟨g, 0, none⟩) n c2)).cell? ⟨w.heap.size + 1 + 1, 0, none⟩ = some (.slice none 0 0) := (World.cell?_setCell_other _ _ _ _ (by simp)).trans (k2.cell v0)
  have y1 : (w2.setCell ⟨w.heap.size, 0, none⟩ (.slice (some ⟨g, 0, none⟩) n c2)).cell? ⟨w.heap.size + 1 + 1, 1, none⟩ = some (.int .u64 0) := (World.cell?_setCell_other _ _ _ _ (by simp)).trans (k2.cell v1)
  have yf : ∀ o, (w2.setCell ⟨w.heap.size, 0, none⟩ (.slice (some ⟨g, 0, none⟩) n c2)).frozen? ⟨w.heap.size + 1 + 1, o, none⟩ = false := fun o => by rw [World.frozen?_setCell]; exact k2.free v0 vf o
  have rX3 : (w2.setCell ⟨w.heap.size, 0, none⟩ (.slice (some ⟨g, 0, none⟩) n c2)).rangeAt (w.heap.size + 1) 0 x.cells := fun i u hu => (World.cell?_setCell_other _ _ _ _ (by simp)).trans (rangeAt_ext rX k2 i u hu)
  have hgw : w.heap.size ≤ g := by omega
  have hne0 : w.heap.size ≠ g := by omega
  have hne2 : w.heap.size + 1 + 1 ≠ g := by omega
  clear hgrow2 hat2 hown2 u0 u1 uf v0 v1 vf x0 xf k2 k0 rX HSRC hz
  generalize w2.setCell ⟨w.heap.size, 0, none⟩ (.slice (some ⟨g, 0, none⟩) n c2) = w3 at *
  have hthere : w3.there g (k * 34) x.cells.toArray.size := by
    rw [List.size_toArray, hx34]
    exact own_there hown3 (by have := Nat.mul_le_mul_right 34 (show k + 1 ≤ n by omega); rw [Nat.succ_mul] at this; omega)
  have hVL := VL.set hown3 hbytes hlen hok hk hxo
  have c0' := cell_apart (o := k * 34) (vs := x.cells) c0 hne0
  have c1' := cell_apart (o := k * 34) (vs := x.cells) c1 hne0
  have y0' := cell_apart (o := k * 34) (vs := x.cells) y0 hne2
  have y1' := cell_apart (o := k * 34) (vs := x.cells) y1 hne2
  have yf' : ∀ o, (w3.setCells g (k * 34) x.cells).frozen? ⟨w.heap.size + 1 + 1, o, none⟩ = false := fun o => by rw [World.frozen?_setCells]; exact yf o
  have k4 : Ext w (w3.setCells g (k * 34) x.cells) := Ext.setCells (by omega) _ _ k3
  have HF := Lib.hid (And.intro hVL (And.intro c0' (And.intro c1' (And.intro y0' (And.intro y1' (And.intro yf' k4))))))
  clear hVL c0' c1' y0' y1' yf' k4 y0 y1 yf k3 hown3 hok
  have hgs : Hid (w.heap.size ≤ g) := hgw
  clear hg
  go_upto_region 3 with (first | (refine wpList_load_mid rfl 34 _ rfl _ _ rfl x.cells _ rX3 Try.underlying34 rfl hi34 ?_) | (refine wpList_store_mid rfl 34 _ _ rfl g (k * 34) x.cells.toArray rfl rfl (by with_reducible exact hthere) (by rw [List.size_toArray]; exact hi34) (all_oneCell_toArray (Lat.one x)) ?_; rw [List.toList_toArray]; generalize w3.setCells g (k * 34) x.cells = w4 at *))
  clear c0 c1 rX3 hthere hgw
  obtain ⟨hVL, c0, c1, y0, y1, yf, k4⟩ := HF.out
  have HVL := Lib.hid hVL
  have HN2 := Lib.hid hne2
  clear hVL HF hne2 hne0
  go_wp2
  refine bodyPost_ret (v := .agg #[.slice (some ⟨g, 0, none⟩) n c2, .int .u64 out]) (by simp (maxDischargeDepth := 7) [results, Try.results25, go_sem, y0, y1]) rfl ⟨⟨_, _, rfl, ?_, fun ad e => by cases e; exact hgs.out⟩, ?_⟩
  · exact (HVL.out.setCell (fun ad e => by cases e; exact fun h' => HN2.out h'.symm) _).setCell (fun ad e => by cases e; exact fun h' => HN2.out h'.symm) _
  · exact (k4.setCell (by show _ ≤ w.heap.size + 1 + 1; omega) _).setCell (by show _ ≤ w.heap.size + 1 + 1; omega) _
end Go.Proofs.Ytnpopepannimiaa
