/- The contracts of layer 5 (box): take, close. -/
import Derived.Test.YtfngnajcmdaphaaBoxWork
namespace Go.Proofs.Ytfngnajcmdaphaa
open Go.RowKit Go.WideShapes Go.ChangeShapes
set_option linter.unusedVariables false
set_option linter.unusedSimpArgs false






theorem range_setB {w : World} {b o : Nat} {cs : List Value} (h : w.rangeAt b o cs) {p : Addr} (hne : b ≠ p.block) (v : Value) : (w.setCell p v).rangeAt b o cs := by
  intro i u hu
  have hne' : p ≠ ⟨b, o + i, none⟩ := by rintro rfl; exact hne rfl
  exact (World.cell?_setCell_other _ _ _ _ hne').trans (h i u hu)
namespace TL
theorem setCells {A : Option Addr} {n c : Nat} {NS : List Note} {B : Nat} (hne : ∀ ad, A = some ad → ad.block ≠ B) : ∀ (vs : List Value) (o : Nat) {w : World}, TL w A n c NS → TL (w.setCells B o vs) A n c NS
  | [], o, w, h => h
  | v :: vs, o, w, h => by
    show TL ((w.setCell ⟨B, o, none⟩ v).setCells B (o + 1) vs) A n c NS
    exact setCells hne vs (o + 1) (h.setCell (p := ⟨B, o, none⟩) hne v)
theorem tail {w : World} {b off m c : Nat} {y : Note} {l : List Note} (h : TL w (some ⟨b, off, none⟩) (m + 1) c (y :: l)) : TL w (some ⟨b, off + 66, none⟩) m (c - 1) l := by
  have hl := h.len
  have hc := h.row.cap
  have hr := h.row.room
  have hb := h.bytes
  refine ⟨⟨by simp at hl ⊢; omega, by omega, by omega, fun x hx => h.row.wide x (by simp at hx ⊢; exact .inr hx), (fun e => by cases e), fun hn => ?_⟩, fun x hx => h.ok x (by simp [hx]), by omega⟩
  obtain ⟨b', off', e, hcell⟩ := h.row.cells (by omega)
  obtain ⟨rfl, rfl⟩ : b = b' ∧ off = off' := by simpa using e
  refine ⟨b, off + 66, rfl, fun i hi => ?_⟩
  have := hcell (i + 1) (by omega)
  rw [show off + 66 + i * 66 = off + (i + 1) * 66 by omega]
  simpa using this
theorem tail' {w : World} {b off m c : Nat} {y : Note} {l : List Note} (h : TL w (some ⟨b, off, none⟩) (m + 1) c (y :: l)) : TL w (if c = 1 then some ⟨b, off, none⟩ else some ⟨b, off + 66, none⟩) m (c - 1) l := by
  by_cases hc : c = 1
  · rw [if_pos hc]
    have h1 := h.row.cap
    have hm : m = 0 := by omega
    subst hm
    have ht := h.tail
    have h0 : l = [] := List.eq_nil_of_length_eq_zero ht.len
    subst h0
    exact ⟨⟨rfl, by omega, by omega, by simp, (fun e => by cases e), fun hn => absurd hn (Nat.lt_irrefl _)⟩, by simp, by omega⟩
  · rw [if_neg hc]; exact h.tail
end TL
theorem tail_blk {b off off' c : Nat} {ad : Addr} (e : (if c = 1 then some (⟨b, off, none⟩ : Addr) else some ⟨b, off', none⟩) = some ad) : ad.block = b := by
  by_cases hc : c = 1
  · rw [if_pos hc] at e; cases e; rfl
  · rw [if_neg hc] at e; cases e; rfl
namespace WorkR
theorem setR {W : World} {B n c : Nat} {cap : Int} {A : Option Addr} {lag cl : Bool} {x : Note} (h : WorkR W B cap A n c lag cl x) (hxo : x.Ok) (y : Note) (hy : y.Ok) : WorkR (W.setCells B 4 y.cells) B cap A n c lag cl y := by
  have hout : ∀ o, o < 4 → (W.setCells B 4 y.cells).cell? ⟨B, o, none⟩ = W.cell? ⟨B, o, none⟩ := fun o ho => World.cell?_setCells_out B y.cells 4 W ⟨B, o, none⟩ (fun _ _ => .inl ho)
  refine ⟨(hout 0 (by omega)).trans h.c0, (hout 1 (by omega)).trans h.c1, (hout 2 (by omega)).trans h.c2, (hout 3 (by omega)).trans h.c3, ?_, fun o => by rw [World.frozen?_setCells]; exact h.f o⟩
  refine World.rangeAt_setCells_same W B 4 y.cells (fun j hj => ?_)
  rw [Note.len hy] at hj
  have hlt : j < x.cells.length := by rw [Note.len hxo]; exact hj
  have := h.r j _ (List.getElem?_eq_getElem hlt)
  exact ⟨by rw [this]; rfl, h.f _⟩
theorem there {W : World} {B n c : Nat} {cap : Int} {A : Option Addr} {lag cl : Bool} {x : Note} (h : WorkR W B cap A n c lag cl x) (hxo : x.Ok) : W.there B 4 66 := fun j hj => by
  have hlt : j < x.cells.length := by rw [Note.len hxo]; exact hj
  have := h.r j _ (List.getElem?_eq_getElem hlt)
  exact ⟨by rw [this]; rfl, h.f _⟩
end WorkR
namespace Box
def takeW (l : List Note) (x : Note) : Bool × List Note × Note := match l with
  | [] => (false, [], x)
  | y :: l => (true, l, y)
end Box
set_option maxRecDepth 100000 in
set_option maxHeartbeats 1000000 in
theorem wtake_some (B base : Nat) (cap : Int) (ba oa m c : Nat) (lag cl : Bool) (x y : Note) (NS : List Note) (w W : World) (kW : Ext w W) (hB : w.heap.size ≤ B) (R : WorkR W B cap (some ⟨ba, oa, none⟩) (m + 1) c lag cl x) (hxo : x.Ok)
    (hTL : TL W (some ⟨ba, oa, none⟩) (m + 1) c (y :: NS)) (hyo : y.Ok) (RY : W.rangeAt ba oa y.cells) (hbase2 : base ≤ ba) (hbaB : ba ≠ B) :
    Calls Try.prog 25 #[.pointer (some ⟨B, 0, none⟩)] W fun e w' => (∃ A' c', e = .returned (.bool true) ∧ WorkR w' B cap A' m c' lag cl y ∧ TL w' A' m c' NS ∧ ∀ ad, A' = some ad → base ≤ ad.block) ∧ Ext w w' := by
  have hBW := lt_of_cell R.c0
  have c1 := R.c1
  have hf := R.f
  have hcap := hTL.row.cap
  have hy66 : y.cells.length = 66 := Note.len hyo
  have hj66 : (Try.prog.info? 33).map (·.size) = some y.cells.length := by rw [hy66]; kernel_rfl
  have hu33 := Try.underlying33
  have g0 : ((m + 1 : Nat) == (0 : Int)) = false := by simp; omega
  have g1 : (1 : Int) ≤ (m : Int) + 1 := by omega
  obtain ⟨Ao, hAo⟩ : ∃ Ao, (if c = 1 then some (⟨ba, oa, none⟩ : Addr) else some ⟨ba, oa + 66, none⟩) = Ao := ⟨_, rfl⟩
  have HAo := Lib.hid hAo
  have HR := Lib.hid R
  have HT2 := Lib.hid hTL
  have RY := Lib.hid RY
  clear R hTL
  go_enter Try.func25, Try.ntmps25
  go_wp2
  generalize W = W2 at *
  have kw := kW
  have hth := HR.out.there hxo
  refine wp_region_noPanic ?_
  refine wp_region_held_drew (S := fun w' => w'.rangeAt ba oa y.cells) (by kernel_rfl) (rangeAt_ext RY.out ((by repeat (first | assumption | exact Ext.refl _ | refine Ext.alloc ?_ _ | refine Ext.drew ?_ | refine Ext.drewN ?_ _ | refine Ext.setCell ?_ (by first | (simp; done) | omega | (simp; omega)) _ | refine Ext.trans (by assumption) ?_)))) (fun hHeld => ?_)
  change wpAnyH _ _ _ _ _ 22 (Array.replicate 22 false) _ _
  refine wpAnyH_take (i := 0) (v := Value.pointer (some ⟨B, 0, none⟩)) rfl (by kernel_rfl) (by kernel_rfl) (by kernel_rfl) (fun _ _ _ h => h) (Or.inl ⟨by rfl, fun _ hSw => by first | (go_simp; done) | (go_simp; with_reducible rfl)⟩) hHeld ?_
  (try simp only [List.getElem_toArray, List.getElem_cons_zero, List.getElem_cons_succ, Act.put, List.setIfInBounds_toArray, List.set_cons_zero, List.set_cons_succ])
  refine wpAnyH_take (i := 1) (v := Value.pointer (some ⟨B, 0, none⟩)) rfl (by kernel_rfl) (by kernel_rfl) (by kernel_rfl) (fun _ _ _ h => h) (Or.inl ⟨by rfl, fun _ hSw => by first | (go_simp; done) | (go_simp; with_reducible rfl)⟩) hHeld ?_
  (try simp only [List.getElem_toArray, List.getElem_cons_zero, List.getElem_cons_succ, Act.put, List.setIfInBounds_toArray, List.set_cons_zero, List.set_cons_succ])
  refine wpAnyH_take (i := 2) (v := Value.pointer (some ⟨B, 0, none⟩)) rfl (by kernel_rfl) (by kernel_rfl) (by kernel_rfl) (fun _ _ _ h => h) (Or.inl ⟨by rfl, fun _ hSw => by first | (go_simp; done) | (go_simp; with_reducible rfl)⟩) hHeld ?_
  (try simp only [List.getElem_toArray, List.getElem_cons_zero, List.getElem_cons_succ, Act.put, List.setIfInBounds_toArray, List.set_cons_zero, List.set_cons_succ])
  refine wpAnyH_take (i := 3) (v := Value.pointer (some ⟨B, 0, none⟩)) rfl (by kernel_rfl) (by kernel_rfl) (by kernel_rfl) (fun _ _ _ h => h) (Or.inl ⟨by rfl, fun _ hSw => by first | (go_simp; done) | (go_simp; with_reducible rfl)⟩) hHeld ?_
  (try simp only [List.getElem_toArray, List.getElem_cons_zero, List.getElem_cons_succ, Act.put, List.setIfInBounds_toArray, List.set_cons_zero, List.set_cons_succ])
  refine wpAnyH_take (i := 4) (v := Value.pointer (some ⟨B, 0, none⟩)) rfl (by kernel_rfl) (by kernel_rfl) (by kernel_rfl) (fun _ _ _ h => h) (Or.inl ⟨by rfl, fun _ hSw => by first | (go_simp; done) | (go_simp; with_reducible rfl)⟩) hHeld ?_
  (try simp only [List.getElem_toArray, List.getElem_cons_zero, List.getElem_cons_succ, Act.put, List.setIfInBounds_toArray, List.set_cons_zero, List.set_cons_succ])
  refine wpAnyH_take (i := 5) (v := Value.pointer (some ⟨B, 1, none⟩)) rfl (by kernel_rfl) (by kernel_rfl) (by kernel_rfl) (fun _ _ _ h => h) (Or.inl ⟨by rfl, fun _ hSw => by first | (go_simp; done) | (go_simp; with_reducible rfl)⟩) hHeld ?_
  (try simp only [List.getElem_toArray, List.getElem_cons_zero, List.getElem_cons_succ, Act.put, List.setIfInBounds_toArray, List.set_cons_zero, List.set_cons_succ])
  refine wpAnyH_take (i := 9) (v := Value.pointer (some ⟨B, 0, none⟩)) rfl (by kernel_rfl) (by kernel_rfl) (by kernel_rfl) (fun _ _ _ h => h) (Or.inl ⟨by rfl, fun _ hSw => by first | (go_simp; done) | (go_simp; with_reducible rfl)⟩) hHeld ?_
  (try simp only [List.getElem_toArray, List.getElem_cons_zero, List.getElem_cons_succ, Act.put, List.setIfInBounds_toArray, List.set_cons_zero, List.set_cons_succ])
  refine wpAnyH_take (i := 10) (v := Value.pointer (some ⟨B, 0, none⟩)) rfl (by kernel_rfl) (by kernel_rfl) (by kernel_rfl) (fun _ _ _ h => h) (Or.inl ⟨by rfl, fun _ hSw => by first | (go_simp; done) | (go_simp; with_reducible rfl)⟩) hHeld ?_
  (try simp only [List.getElem_toArray, List.getElem_cons_zero, List.getElem_cons_succ, Act.put, List.setIfInBounds_toArray, List.set_cons_zero, List.set_cons_succ])
  refine wpAnyH_take (i := 11) (v := Value.pointer (some ⟨B, 0, none⟩)) rfl (by kernel_rfl) (by kernel_rfl) (by kernel_rfl) (fun _ _ _ h => h) (Or.inl ⟨by rfl, fun _ hSw => by first | (go_simp; done) | (go_simp; with_reducible rfl)⟩) hHeld ?_
  (try simp only [List.getElem_toArray, List.getElem_cons_zero, List.getElem_cons_succ, Act.put, List.setIfInBounds_toArray, List.set_cons_zero, List.set_cons_succ])
  refine wpAnyH_take (i := 12) (v := Value.pointer (some ⟨B, 1, none⟩)) rfl (by kernel_rfl) (by kernel_rfl) (by kernel_rfl) (fun _ _ _ h => h) (Or.inl ⟨by rfl, fun _ hSw => by first | (go_simp; done) | (go_simp; with_reducible rfl)⟩) hHeld ?_
  (try simp only [List.getElem_toArray, List.getElem_cons_zero, List.getElem_cons_succ, Act.put, List.setIfInBounds_toArray, List.set_cons_zero, List.set_cons_succ])
  refine wpAnyH_ready (rs := [6, 13]) (by kernel_rfl) (by simp) ?_
  refine AllReadyH.cons rfl (fun K hK => ?_) ?_
  · go_simp
    refine hK.out _ _ hHeld (fun hHeld => ?_)
    clear hK K
    (try simp only [List.getElem_toArray, List.getElem_cons_zero, List.getElem_cons_succ, Act.put, List.setIfInBounds_toArray, List.set_cons_zero, List.set_cons_succ])
    refine wpAnyH_take (i := 7) (v := Value.pointer (some ⟨ba, oa, none⟩)) rfl (by kernel_rfl) (by kernel_rfl) (by kernel_rfl) (fun _ _ _ h => h) (Or.inl ⟨by rfl, fun _ hSw => by first | (go_simp; done) | (go_simp; with_reducible rfl)⟩) hHeld ?_
    (try simp only [List.getElem_toArray, List.getElem_cons_zero, List.getElem_cons_succ, Act.put, List.setIfInBounds_toArray, List.set_cons_zero, List.set_cons_succ])
    refine wpAnyH_take (i := 8) (v := .agg (y.cells).toArray) rfl (by kernel_rfl) (by kernel_rfl) (by kernel_rfl) (fun _ _ _ h => h) (yieldsIf_load_mid (by rfl) 33 (.tmp 17) (by rfl) ba oa (by go_simp) (y.cells) _ (fun w hw => hw) hu33 (by rfl) hj66) hHeld ?_
    (try simp only [List.getElem_toArray, List.getElem_cons_zero, List.getElem_cons_succ, Act.put, List.setIfInBounds_toArray, List.set_cons_zero, List.set_cons_succ])
    refine wpAnyH_ready (rs := [13]) (by kernel_rfl) (by simp) ?_
    refine AllReadyH.cons rfl (fun K hK => ?_) ?_
    · go_simp
      refine hK.out _ _ hHeld (fun hHeld => ?_)
      clear hK K
      (try simp only [List.getElem_toArray, List.getElem_cons_zero, List.getElem_cons_succ, Act.put, List.setIfInBounds_toArray, List.set_cons_zero, List.set_cons_succ])
      refine wpAnyH_take (i := 14) (v := Value.slice Ao m (c - 1)) rfl (by kernel_rfl) (by kernel_rfl) (by kernel_rfl) (fun _ _ _ h => h) (Or.inl ⟨by rfl, fun _ hSw => by first | (go_simp; done) | (go_simp; with_reducible rfl)⟩) hHeld ?_
      (try simp only [List.getElem_toArray, List.getElem_cons_zero, List.getElem_cons_succ, Act.put, List.setIfInBounds_toArray, List.set_cons_zero, List.set_cons_succ])
      refine wpAnyH_take (i := 15) (v := Value.pointer (some ⟨B, 0, none⟩)) rfl (by kernel_rfl) (by kernel_rfl) (by kernel_rfl) (fun _ _ _ h => h) (Or.inl ⟨by rfl, fun _ hSw => by first | (go_simp; done) | (go_simp; with_reducible rfl)⟩) hHeld ?_
      (try simp only [List.getElem_toArray, List.getElem_cons_zero, List.getElem_cons_succ, Act.put, List.setIfInBounds_toArray, List.set_cons_zero, List.set_cons_succ])
      refine wpAnyH_take (i := 16) (v := Value.pointer (some ⟨B, 4, none⟩)) rfl (by kernel_rfl) (by kernel_rfl) (by kernel_rfl) (fun _ _ _ h => h) (Or.inl ⟨by rfl, fun _ hSw => by first | (go_simp; done) | (go_simp; with_reducible rfl)⟩) hHeld ?_
      (try simp only [List.getElem_toArray, List.getElem_cons_zero, List.getElem_cons_succ, Act.put, List.setIfInBounds_toArray, List.set_cons_zero, List.set_cons_succ])
      refine wpAnyH_ready (rs := [17]) (by kernel_rfl) (by simp) ?_
      refine AllReadyH.cons rfl (fun K hK => ?_) ?_
      · have hxD : Ext W2 W2.drew := (Ext.refl _).drew
        have RD := HR.out.ext hxD
        have TD := HT2.out.ext hxD
        have RYD := rangeAt_ext RY.out hxD
        have kD := kw.trans hxD
        have hthD := RD.there hxo
        clear HR HT2 RY hf c1 hth hxD kw hHeld
        generalize W2.drew = W4 at *
        rw [if_pos (by rfl)]
        refine wp_store_mid 33 _ _ (by rfl) B 4 y.cells.toArray (by go_simp) (by go_simp) (by rw [List.size_toArray, hy66]; exact hthD) (by rw [List.size_toArray]; exact hj66) (all_oneCell_toArray (Note.one y)) ?_
        rw [List.toList_toArray]
        have R3 := RD.setR hxo y hyo
        have k3 : Ext w (W4.setCells B 4 y.cells) := Ext.setCells hB _ _ kD
        have T3 := TL.setCells (B := B) (by intro ad e; cases e; exact hbaB) y.cells 4 TD
        have RY3 := World.rangeAt_setCells_apart RYD B 4 y.cells (.inl hbaB)
        clear RD TD RYD kD hthD
        generalize W4.setCells B 4 y.cells = W3 at *
        refine hK.out _ _ RY3 (fun hHeld => ?_)
        clear hK K
        (try simp only [List.getElem_toArray, List.getElem_cons_zero, List.getElem_cons_succ, Act.put, List.setIfInBounds_toArray, List.set_cons_zero, List.set_cons_succ])
        have c1' := R3.c1
        have f3 := R3.f
        have HR3 := Lib.hid R3
        have HT3 := Lib.hid T3
        clear R3 T3 RY3
        refine wpAnyH_take (i := 18) (v := Value.pointer (some ⟨B, 0, none⟩)) rfl (by kernel_rfl) (by kernel_rfl) (by kernel_rfl) (fun _ _ _ h => h) (Or.inl ⟨by rfl, fun _ hSw => by first | (go_simp; done) | (go_simp; with_reducible rfl)⟩) hHeld ?_
        (try simp only [List.getElem_toArray, List.getElem_cons_zero, List.getElem_cons_succ, Act.put, List.setIfInBounds_toArray, List.set_cons_zero, List.set_cons_succ])
        refine wpAnyH_take (i := 19) (v := Value.pointer (some ⟨B, 0, none⟩)) rfl (by kernel_rfl) (by kernel_rfl) (by kernel_rfl) (fun _ _ _ h => h) (Or.inl ⟨by rfl, fun _ hSw => by first | (go_simp; done) | (go_simp; with_reducible rfl)⟩) hHeld ?_
        (try simp only [List.getElem_toArray, List.getElem_cons_zero, List.getElem_cons_succ, Act.put, List.setIfInBounds_toArray, List.set_cons_zero, List.set_cons_succ])
        refine wpAnyH_take (i := 20) (v := Value.pointer (some ⟨B, 1, none⟩)) rfl (by kernel_rfl) (by kernel_rfl) (by kernel_rfl) (fun _ _ _ h => h) (Or.inl ⟨by rfl, fun _ hSw => by first | (go_simp; done) | (go_simp; with_reducible rfl)⟩) hHeld ?_
        (try simp only [List.getElem_toArray, List.getElem_cons_zero, List.getElem_cons_succ, Act.put, List.setIfInBounds_toArray, List.set_cons_zero, List.set_cons_succ])
        refine wpAnyH_ready (rs := [21]) (by kernel_rfl) (by simp) ?_
        refine AllReadyH.cons rfl (fun K hK => ?_) ?_
        · go_simp
          refine hK.out _ _ (range_setB hHeld (p := ⟨B, 1, none⟩) hbaB _) (fun hHeld => ?_)
          clear hK K
          (try simp only [List.getElem_toArray, List.getElem_cons_zero, List.getElem_cons_succ, Act.put, List.setIfInBounds_toArray, List.set_cons_zero, List.set_cons_succ])
          refine wpAnyH_done (by kernel_rfl) ?_ _
          refine NoPanic.normal ?_
          go_wp2
          go_ret
          exact ⟨⟨_, _, rfl, HR3.out.set1 _ _ _, ((HAo.out ▸ HT3.out.tail').setCell (p := ⟨B, 1, none⟩) (fun ad e => by rw [tail_blk (HAo.out.trans e)]; exact hbaB) _), fun ad e => by rw [tail_blk (HAo.out.trans e)]; exact hbase2⟩, k3.setCell (p := ⟨B, 1, none⟩) hB _⟩
        · exact AllReadyH.nil
      · exact AllReadyH.nil
    · exact AllReadyH.nil
  refine AllReadyH.cons rfl (fun K hK => ?_) ?_
  · go_simp
    refine hK.out _ _ hHeld (fun hHeld => ?_)
    clear hK K
    (try simp only [List.getElem_toArray, List.getElem_cons_zero, List.getElem_cons_succ, Act.put, List.setIfInBounds_toArray, List.set_cons_zero, List.set_cons_succ])
    refine wpAnyH_take (i := 14) (v := Value.slice Ao m (c - 1)) rfl (by kernel_rfl) (by kernel_rfl) (by kernel_rfl) (fun _ _ _ h => h) (Or.inl ⟨by rfl, fun _ hSw => by first | (go_simp; done) | (go_simp; with_reducible rfl)⟩) hHeld ?_
    (try simp only [List.getElem_toArray, List.getElem_cons_zero, List.getElem_cons_succ, Act.put, List.setIfInBounds_toArray, List.set_cons_zero, List.set_cons_succ])
    refine wpAnyH_ready (rs := [6]) (by kernel_rfl) (by simp) ?_
    refine AllReadyH.cons rfl (fun K hK => ?_) ?_
    · go_simp
      refine hK.out _ _ hHeld (fun hHeld => ?_)
      clear hK K
      (try simp only [List.getElem_toArray, List.getElem_cons_zero, List.getElem_cons_succ, Act.put, List.setIfInBounds_toArray, List.set_cons_zero, List.set_cons_succ])
      refine wpAnyH_take (i := 7) (v := Value.pointer (some ⟨ba, oa, none⟩)) rfl (by kernel_rfl) (by kernel_rfl) (by kernel_rfl) (fun _ _ _ h => h) (Or.inl ⟨by rfl, fun _ hSw => by first | (go_simp; done) | (go_simp; with_reducible rfl)⟩) hHeld ?_
      (try simp only [List.getElem_toArray, List.getElem_cons_zero, List.getElem_cons_succ, Act.put, List.setIfInBounds_toArray, List.set_cons_zero, List.set_cons_succ])
      refine wpAnyH_take (i := 8) (v := .agg (y.cells).toArray) rfl (by kernel_rfl) (by kernel_rfl) (by kernel_rfl) (fun _ _ _ h => h) (yieldsIf_load_mid (by rfl) 33 (.tmp 17) (by rfl) ba oa (by go_simp) (y.cells) _ (fun w hw => hw) hu33 (by rfl) hj66) hHeld ?_
      (try simp only [List.getElem_toArray, List.getElem_cons_zero, List.getElem_cons_succ, Act.put, List.setIfInBounds_toArray, List.set_cons_zero, List.set_cons_succ])
      refine wpAnyH_take (i := 15) (v := Value.pointer (some ⟨B, 0, none⟩)) rfl (by kernel_rfl) (by kernel_rfl) (by kernel_rfl) (fun _ _ _ h => h) (Or.inl ⟨by rfl, fun _ hSw => by first | (go_simp; done) | (go_simp; with_reducible rfl)⟩) hHeld ?_
      (try simp only [List.getElem_toArray, List.getElem_cons_zero, List.getElem_cons_succ, Act.put, List.setIfInBounds_toArray, List.set_cons_zero, List.set_cons_succ])
      refine wpAnyH_take (i := 16) (v := Value.pointer (some ⟨B, 4, none⟩)) rfl (by kernel_rfl) (by kernel_rfl) (by kernel_rfl) (fun _ _ _ h => h) (Or.inl ⟨by rfl, fun _ hSw => by first | (go_simp; done) | (go_simp; with_reducible rfl)⟩) hHeld ?_
      (try simp only [List.getElem_toArray, List.getElem_cons_zero, List.getElem_cons_succ, Act.put, List.setIfInBounds_toArray, List.set_cons_zero, List.set_cons_succ])
      refine wpAnyH_ready (rs := [17]) (by kernel_rfl) (by simp) ?_
      refine AllReadyH.cons rfl (fun K hK => ?_) ?_
      · have hxD : Ext W2 W2.drew := (Ext.refl _).drew
        have RD := HR.out.ext hxD
        have TD := HT2.out.ext hxD
        have RYD := rangeAt_ext RY.out hxD
        have kD := kw.trans hxD
        have hthD := RD.there hxo
        clear HR HT2 RY hf c1 hth hxD kw hHeld
        generalize W2.drew = W4 at *
        rw [if_pos (by rfl)]
        refine wp_store_mid 33 _ _ (by rfl) B 4 y.cells.toArray (by go_simp) (by go_simp) (by rw [List.size_toArray, hy66]; exact hthD) (by rw [List.size_toArray]; exact hj66) (all_oneCell_toArray (Note.one y)) ?_
        rw [List.toList_toArray]
        have R3 := RD.setR hxo y hyo
        have k3 : Ext w (W4.setCells B 4 y.cells) := Ext.setCells hB _ _ kD
        have T3 := TL.setCells (B := B) (by intro ad e; cases e; exact hbaB) y.cells 4 TD
        have RY3 := World.rangeAt_setCells_apart RYD B 4 y.cells (.inl hbaB)
        clear RD TD RYD kD hthD
        generalize W4.setCells B 4 y.cells = W3 at *
        refine hK.out _ _ RY3 (fun hHeld => ?_)
        clear hK K
        (try simp only [List.getElem_toArray, List.getElem_cons_zero, List.getElem_cons_succ, Act.put, List.setIfInBounds_toArray, List.set_cons_zero, List.set_cons_succ])
        have c1' := R3.c1
        have f3 := R3.f
        have HR3 := Lib.hid R3
        have HT3 := Lib.hid T3
        clear R3 T3 RY3
        refine wpAnyH_take (i := 18) (v := Value.pointer (some ⟨B, 0, none⟩)) rfl (by kernel_rfl) (by kernel_rfl) (by kernel_rfl) (fun _ _ _ h => h) (Or.inl ⟨by rfl, fun _ hSw => by first | (go_simp; done) | (go_simp; with_reducible rfl)⟩) hHeld ?_
        (try simp only [List.getElem_toArray, List.getElem_cons_zero, List.getElem_cons_succ, Act.put, List.setIfInBounds_toArray, List.set_cons_zero, List.set_cons_succ])
        refine wpAnyH_take (i := 19) (v := Value.pointer (some ⟨B, 0, none⟩)) rfl (by kernel_rfl) (by kernel_rfl) (by kernel_rfl) (fun _ _ _ h => h) (Or.inl ⟨by rfl, fun _ hSw => by first | (go_simp; done) | (go_simp; with_reducible rfl)⟩) hHeld ?_
        (try simp only [List.getElem_toArray, List.getElem_cons_zero, List.getElem_cons_succ, Act.put, List.setIfInBounds_toArray, List.set_cons_zero, List.set_cons_succ])
        refine wpAnyH_take (i := 20) (v := Value.pointer (some ⟨B, 1, none⟩)) rfl (by kernel_rfl) (by kernel_rfl) (by kernel_rfl) (fun _ _ _ h => h) (Or.inl ⟨by rfl, fun _ hSw => by first | (go_simp; done) | (go_simp; with_reducible rfl)⟩) hHeld ?_
        (try simp only [List.getElem_toArray, List.getElem_cons_zero, List.getElem_cons_succ, Act.put, List.setIfInBounds_toArray, List.set_cons_zero, List.set_cons_succ])
        refine wpAnyH_ready (rs := [21]) (by kernel_rfl) (by simp) ?_
        refine AllReadyH.cons rfl (fun K hK => ?_) ?_
        · go_simp
          refine hK.out _ _ (range_setB hHeld (p := ⟨B, 1, none⟩) hbaB _) (fun hHeld => ?_)
          clear hK K
          (try simp only [List.getElem_toArray, List.getElem_cons_zero, List.getElem_cons_succ, Act.put, List.setIfInBounds_toArray, List.set_cons_zero, List.set_cons_succ])
          refine wpAnyH_done (by kernel_rfl) ?_ _
          refine NoPanic.normal ?_
          go_wp2
          go_ret
          exact ⟨⟨_, _, rfl, HR3.out.set1 _ _ _, ((HAo.out ▸ HT3.out.tail').setCell (p := ⟨B, 1, none⟩) (fun ad e => by rw [tail_blk (HAo.out.trans e)]; exact hbaB) _), fun ad e => by rw [tail_blk (HAo.out.trans e)]; exact hbase2⟩, k3.setCell (p := ⟨B, 1, none⟩) hB _⟩
        · exact AllReadyH.nil
      · exact AllReadyH.nil
    · exact AllReadyH.nil
  exact AllReadyH.nil
set_option maxRecDepth 100000 in
set_option maxHeartbeats 1000000 in
theorem wtake_any (B base : Nat) (cap : Int) (A : Option Addr) (n c : Nat) (lag cl : Bool) (x : Note) (NS : List Note) (w W : World) (kW : Ext w W) (hB : w.heap.size ≤ B) (R : WorkR W B cap A n c lag cl x) (hxo : x.Ok)
    (hown : W.ownsRow base 33 66 (.slice A n c) n (flatT NS)) (hne : (Value.slice A n c).ownBlock ≠ some B) (hl : NS.length = n) (hn : n ≤ 8) (hok : ∀ y ∈ NS, y.Ok)
    (b : Bool) (NS' : List Note) (x' : Note) (hp : Box.takeW NS x = (b, NS', x')) :
    Calls Try.prog 25 #[.pointer (some ⟨B, 0, none⟩)] W fun e w' => (∃ A' c', e = .returned (.bool b) ∧ WorkR w' B cap A' NS'.length c' lag cl x' ∧ TL w' A' NS'.length c' NS' ∧ ∀ ad, A' = some ad → base ≤ ad.block) ∧ Ext w w' := by
  obtain ⟨A', c', e', hTL, hfr⟩ := TL.own hown (by omega) hl hok
  obtain ⟨rfl, rfl⟩ : A = A' ∧ c = c' := by simpa using e'
  clear e'
  cases NS with
  | nil =>
    obtain ⟨rfl, rfl, rfl⟩ : false = b ∧ [] = NS' ∧ x = x' := by simpa [Box.takeW] using hp
    obtain rfl : n = 0 := by simpa using hl.symm
    have c1 := R.c1
    have HR := Lib.hid R
    have HT := Lib.hid hTL
    have HF := Lib.hid hfr
    clear R hTL hown hp hfr hne
    go_enter Try.func25, Try.ntmps25
    go_wp2
    go_ret
    exact ⟨⟨_, _, rfl, HR.out, HT.out, HF.out⟩, kW⟩
  | cons y l =>
    obtain ⟨rfl, rfl, rfl⟩ : true = b ∧ l = NS' ∧ y = x' := by simpa [Box.takeW] using hp
    obtain rfl : n = l.length + 1 := by simpa using hl.symm
    obtain ⟨ba, oa, rfl, hr, hyo⟩ := hTL.at' (show 0 < l.length + 1 by omega)
    exact wtake_some B base cap ba oa l.length c lag cl x y l w W kW hB R hxo hTL hyo (by simpa using hr) (hfr _ rfl) (fun h => hne (by rw [← h]; rfl))
set_option maxHeartbeats 1000000 in
theorem wclose_any (B base : Nat) (cap : Int) (A : Option Addr) (n c : Nat) (lag cl : Bool) (x : Note) (NS : List Note) (w W : World) (kW : Ext w W) (hB : w.heap.size ≤ B) (R : WorkR W B cap A n c lag cl x)
    (hown : W.ownsRow base 33 66 (.slice A n c) n (flatT NS)) (hne : (Value.slice A n c).ownBlock ≠ some B) (hl : NS.length = n) (hn : n ≤ 8) (hok : ∀ y ∈ NS, y.Ok) :
    Calls Try.prog 28 #[.pointer (some ⟨B, 0, none⟩)] W fun e w' => (∃ A' c', e = .returned (.bool (!cl)) ∧ WorkR w' B cap A' NS.length c' lag true x ∧ TL w' A' NS.length c' NS ∧ ∀ ad, A' = some ad → base ≤ ad.block) ∧ Ext w w' := by
  obtain ⟨A', c', e', hTL, hfr⟩ := TL.own hown (by omega) hl hok
  obtain ⟨rfl, rfl⟩ : A = A' ∧ c = c' := by simpa using e'
  clear e'
  have hne' : ∀ ad, A = some ad → ad.block ≠ B := by
    rintro ⟨b0, o0, s0⟩ rfl h
    rcases hown.2 with ⟨e1, _⟩ | ⟨g, c2, cur, e1, _⟩
    · cases e1
    · obtain ⟨rfl, rfl, rfl⟩ : (b0 = g ∧ o0 = 0 ∧ s0 = none) := by have := (Value.slice.inj e1).1; have := Option.some.inj this; simpa using this
      exact hne (by rw [← h]; rfl)
  subst hl
  have c3 := R.c3
  have hf := R.f
  have HR := Lib.hid R
  have HT := Lib.hid hTL
  have HF := Lib.hid hfr
  have HN := Lib.hid hne'
  clear R hTL hown hfr hne hne'
  go_enter Try.func28, Try.ntmps28
  go_wp2
  go_ret
  exact ⟨⟨_, _, rfl, HR.out.set3 true, HT.out.setCell (p := ⟨B, 3, none⟩) HN.out _, HF.out⟩, kW.setCell (p := ⟨B, 3, none⟩) hB _⟩
end Go.Proofs.Ytfngnajcmdaphaa
