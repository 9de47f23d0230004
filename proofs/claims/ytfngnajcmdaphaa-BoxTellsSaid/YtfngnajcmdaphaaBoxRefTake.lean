/- The document's answer of layer 5: Post as a whole; Take. -/
import Derived.Test.YtfngnajcmdaphaaBoxRefPost
namespace Go.Proofs.Ytfngnajcmdaphaa
open Go.RowKit Go.WideShapes Go.ChangeShapes
set_option linter.unusedVariables false
set_option linter.unusedSimpArgs false









theorem rpost_any (A : Option Addr) (n c : Nat) (NS : List Note) (cap : Int) (lag cl : Bool) (x : Note) (w : World) (h : TL w A n c NS) (hxo : x.Ok) (b : Bool) (L : List Note) (lag' : Bool) (hp : Box.postD cap NS lag cl x = (b, L, lag')) :
    Calls Try.prog 16 #[.agg #[.int .i64 cap, .slice A n c, .bool lag, .bool cl], .agg x.cells.toArray] w fun e w' => (∃ A' c', e = .returned (.agg #[.int .i64 cap, .slice A' L.length c', .bool lag', .bool cl]) ∧ TL w' A' L.length c' L) ∧ Ext w w' := by
  have hl := h.len
  have hsame := fun hc => rpost_same A n c NS cap lag cl x w h hxo hc
  cases hm : Box.mayV cap NS with
  | false =>
    rw [Box.post_no hm] at hp
    obtain ⟨rfl, rfl, rfl⟩ : false = b ∧ NS = L ∧ lag = lag' := by simpa using hp
    rw [hl]; exact hsame (.inl hm)
  | true =>
    rw [Box.post_yes hm] at hp
    unfold Box.postW at hp
    rw [hl] at hp
    by_cases hc : cl = true ∨ (0 < n ∧ x.ver ≤ (Box.nt NS (n - 1)).ver)
    · rw [if_pos hc] at hp
      obtain ⟨rfl, rfl, rfl⟩ : false = b ∧ NS = L ∧ lag = lag' := by simpa using hp
      rw [hl]; exact hsame (.inr hc)
    · rw [if_neg hc] at hp
      obtain rfl : cl = false := by cases cl with
        | false => rfl
        | true => exact absurd (.inl rfl) hc
      have hc' : ¬ (0 < n ∧ x.ver ≤ (Box.nt NS (n - 1)).ver) := fun h => hc (.inr h)
      by_cases he : (n : Int) = cap
      · rw [if_pos he] at hp
        obtain ⟨rfl, rfl, rfl⟩ : false = b ∧ NS = L ∧ true = lag' := by simpa using hp
        rw [hl]; exact rpost_full A n c NS cap lag x w h hxo hm hc' he
      · rw [if_neg he] at hp
        obtain ⟨rfl, rfl, rfl⟩ : true = b ∧ NS ++ [x] = L ∧ lag = lag' := by simpa using hp
        rw [List.length_append, hl]; exact rpost_app A n c NS cap lag x w h hxo hm hc' he
theorem there_ext {w w' : World} {B o n : Nat} (h : w.there B o n) (k : Ext w w') : w'.there B o n := fun j hj => by
  obtain ⟨h1, h2⟩ := h j hj
  obtain ⟨v, hv⟩ := Option.isSome_iff_exists.1 h1
  refine ⟨by rw [k.cell hv]; rfl, (k.out.frozen (World.block_lt_of_cell? w _ hv)).trans h2⟩

set_option maxHeartbeats 2000000 in
theorem rtake_same (A : Option Addr) (n c : Nat) (NS : List Note) (cap : Int) (lag cl : Bool) (w : World) (h : TL w A n c NS) (q : Bool) (hq : Box.mayV cap NS = q) (hc : q = false ∨ n = 0) :
    Calls Try.prog 17 #[.agg #[.int .i64 cap, .slice A n c, .bool lag, .bool cl]] w fun e w' => (∃ A' c', e = .returned (.tuple #[.agg #[.int .i64 cap, .slice A' n c', .bool lag, .bool cl], .agg Note.zero.cells.toArray, .bool false]) ∧ TL w' A' n c' NS) ∧ Ext w w' := by
  have HM := Lib.hid (fun W (k : Ext w W) => rmay_any A n c NS cap lag cl W (h.ext k))
  have HB := Lib.hid (fun W (k : Ext w W) => h.ext k)
  rw [hq] at HM
  obtain ⟨x, ex⟩ : ∃ x, x = Note.zero := ⟨_, rfl⟩
  have hxo : x.Ok := by rw [ex]; exact Note.zero_ok
  have hx66 : x.cells.length = 66 := Note.len hxo
  have hi66 : (Try.prog.info? 33).map (·.size) = some x.cells.length := by rw [hx66]; kernel_rfl
  have hzn : ∀ W, Sem.run Try.prog (zeroValue 33) W = .ok (.agg x.cells.toArray) W := by rw [ex]; exact zeroNote
  rw [← ex]
  clear h ex hq
  have hc' : q = false ∨ (q = true ∧ n = 0) := by cases q <;> simp_all
  clear hc
  rcases hc' with rfl | ⟨rfl, rfl⟩
  · go_enter Try.func17, Try.ntmps17
    go_wp2_with fail
    refine (HM.out _ ((by repeat (first | assumption | exact Ext.refl _ | refine Ext.alloc ?_ _ | refine Ext.drew ?_ | refine Ext.drewN ?_ _ | refine Ext.setCell ?_ (by first | (simp; done) | omega | (simp; omega)) _ | refine Ext.trans (by assumption) ?_)))).mono ?_
    rintro e w1 ⟨rfl, hx1⟩
    have kk : Ext w w1 := Ext.trans ((by repeat (first | assumption | exact Ext.refl _ | refine Ext.alloc ?_ _ | refine Ext.drew ?_ | refine Ext.drewN ?_ _ | refine Ext.setCell ?_ (by first | (simp; done) | omega | (simp; omega)) _ | refine Ext.trans (by assumption) ?_))) hx1
    have rZ := rangeAt_ext (range_at (w := (w.alloc (.cells #[.int .i64 cap, .slice A n c, .bool lag, .bool cl] 24)).alloc (.cells #[.int .i64 0, .slice none 0 0, .bool false, .bool false] 24)) (B := w.heap.size + 1 + 1) x.cells 33 (by simp)) hx1
    have hth : w1.there (w.heap.size + 1 + 1) 0 66 := there_of rZ (by first | exact hx66 | exact Note.len Note.zero_ok) (hx1.free (range_at (w := (w.alloc (.cells #[.int .i64 cap, .slice A n c, .bool lag, .bool cl] 24)).alloc (.cells #[.int .i64 0, .slice none 0 0, .bool false, .bool false] 24)) (B := w.heap.size + 1 + 1) x.cells 33 (by simp) 0 _ (Note.at0 x)) (fun o => by simp (maxDischargeDepth := 7) [go_sem]))
    have hzX2 := lt_of_cell (rZ 0 _ (Note.at0 x))
    obtain ⟨u0, u1, u2, u3, uf⟩ := (hx1).box4 (B := w.heap.size) (a := .int .i64 cap) (b := .slice A n c) (c := .bool lag) (d := .bool cl) (by simp (maxDischargeDepth := 7) [go_sem]) (by simp (maxDischargeDepth := 7) [go_sem]) (by simp (maxDischargeDepth := 7) [go_sem]) (by simp (maxDischargeDepth := 7) [go_sem]) (fun o => by simp (maxDischargeDepth := 7) [go_sem])
    have ul := lt_of_cell u0
    obtain ⟨v0, v1, v2, v3, vf⟩ := (hx1).box4 (B := w.heap.size + 1) (a := .int .i64 0) (b := .slice none 0 0) (c := .bool false) (d := .bool false) (by simp (maxDischargeDepth := 7) [go_sem]) (by simp (maxDischargeDepth := 7) [go_sem]) (by simp (maxDischargeDepth := 7) [go_sem]) (by simp (maxDischargeDepth := 7) [go_sem]) (fun o => by simp (maxDischargeDepth := 7) [go_sem])
    have vl := lt_of_cell v0
    obtain ⟨X2, hX2⟩ : ∃ X2, X2 = w.heap.size + 1 + 1 := ⟨_, rfl⟩
    obtain ⟨X1, hX1⟩ : ∃ X1, X1 = w.heap.size + 1 := ⟨_, rfl⟩
    have HX : Hid (w.heap.size ≤ X1 ∧ w.heap.size ≤ X2 ∧ X1 ≠ X2 ∧ X1 ≠ w.heap.size ∧ X2 ≠ w.heap.size) := by show _ ∧ _; omega
    rw [← hX2] at hth hzX2 ⊢
    rw [← hX1] at v0 v1 v2 v3 vf vl ⊢
    clear hX1 hX2 hx1 rZ
    have hth4 := there_set4 hth X1 (.int .i64 cap) (.slice A n c) (.bool lag) (.bool cl)
    have hth5 : World.there ((((w1.setCell ⟨X1, 0, none⟩ (.int .i64 cap)).setCell ⟨X1, 1, none⟩ (.slice A n c)).setCell ⟨X1, 2, none⟩ (.bool lag)).setCell ⟨X1, 3, none⟩ (.bool cl)) X2 0 x.cells.toArray.size := by rw [List.size_toArray, hx66]; exact hth4
    have Z1 := set4_range (a := .int .i64 cap) (b := .slice A n c) (c := .bool lag) (d := .bool cl) v0 v1 v2 v3
    have Z2 := World.rangeAt_setCells_apart Z1 X2 0 x.cells (.inl HX.out.2.2.1)
    have Y2 := World.rangeAt_setCells_same _ X2 0 x.cells (by rw [hx66]; exact hth4)
    have K2 := Ext.setCells HX.out.2.1 x.cells 0 (ext_set4 kk HX.out.1 (.int .i64 cap) (.slice A n c) (.bool lag) (.bool cl))
    have HF := Lib.hid (And.intro Z2 (And.intro Y2 K2))
    clear Z1 Z2 Y2 K2 hth hth4
    go_wp2_with (refine wpList_store_mid rfl 33 _ _ rfl X2 0 x.cells.toArray rfl rfl (by with_reducible exact hth5) (by rw [List.size_toArray]; exact hi66) (all_oneCell_toArray (Note.one x)) ?_; rw [List.toList_toArray]; generalize (((((w1.setCell ⟨X1, 0, none⟩ (.int .i64 cap)).setCell ⟨X1, 1, none⟩ (.slice A n c)).setCell ⟨X1, 2, none⟩ (.bool lag)).setCell ⟨X1, 3, none⟩ (.bool cl)).setCells X2 0 x.cells) = W9 at *)
    obtain ⟨Z2, Y2, K2⟩ := HF.out
    refine bodyPost_ret (v := .tuple #[.agg #[.int .i64 cap, .slice A n c, .bool lag, .bool cl], .agg x.cells.toArray, .bool false]) ?_ rfl ⟨⟨_, _, rfl, HB.out _ K2⟩, K2⟩
    have hl6 := run_loadVar_mid (P := Try.prog) _ X1 0 24 _ _ Z2 Try.underlying24 rfl (by kernel_rfl)
    have hl7 := run_loadVar_mid (P := Try.prog) _ X2 0 33 _ _ Y2 Try.underlying33 rfl hi66
    simp only [results, Try.results17]
    simp [Sem.run_bind, Sem.run_pure, hl6, hl7, asAddr]
  · go_enter Try.func17, Try.ntmps17
    go_wp2_with fail
    refine (HM.out _ ((by repeat (first | assumption | exact Ext.refl _ | refine Ext.alloc ?_ _ | refine Ext.drew ?_ | refine Ext.drewN ?_ _ | refine Ext.setCell ?_ (by first | (simp; done) | omega | (simp; omega)) _ | refine Ext.trans (by assumption) ?_)))).mono ?_
    rintro e w1 ⟨rfl, hx1⟩
    have kk : Ext w w1 := Ext.trans ((by repeat (first | assumption | exact Ext.refl _ | refine Ext.alloc ?_ _ | refine Ext.drew ?_ | refine Ext.drewN ?_ _ | refine Ext.setCell ?_ (by first | (simp; done) | omega | (simp; omega)) _ | refine Ext.trans (by assumption) ?_))) hx1
    have rZ := rangeAt_ext (range_at (w := (w.alloc (.cells #[.int .i64 cap, .slice A 0 c, .bool lag, .bool cl] 24)).alloc (.cells #[.int .i64 0, .slice none 0 0, .bool false, .bool false] 24)) (B := w.heap.size + 1 + 1) x.cells 33 (by simp)) hx1
    have hth : w1.there (w.heap.size + 1 + 1) 0 66 := there_of rZ (by first | exact hx66 | exact Note.len Note.zero_ok) (hx1.free (range_at (w := (w.alloc (.cells #[.int .i64 cap, .slice A 0 c, .bool lag, .bool cl] 24)).alloc (.cells #[.int .i64 0, .slice none 0 0, .bool false, .bool false] 24)) (B := w.heap.size + 1 + 1) x.cells 33 (by simp) 0 _ (Note.at0 x)) (fun o => by simp (maxDischargeDepth := 7) [go_sem]))
    have hzX2 := lt_of_cell (rZ 0 _ (Note.at0 x))
    obtain ⟨u0, u1, u2, u3, uf⟩ := (hx1).box4 (B := w.heap.size) (a := .int .i64 cap) (b := .slice A 0 c) (c := .bool lag) (d := .bool cl) (by simp (maxDischargeDepth := 7) [go_sem]) (by simp (maxDischargeDepth := 7) [go_sem]) (by simp (maxDischargeDepth := 7) [go_sem]) (by simp (maxDischargeDepth := 7) [go_sem]) (fun o => by simp (maxDischargeDepth := 7) [go_sem])
    have ul := lt_of_cell u0
    obtain ⟨v0, v1, v2, v3, vf⟩ := (hx1).box4 (B := w.heap.size + 1) (a := .int .i64 0) (b := .slice none 0 0) (c := .bool false) (d := .bool false) (by simp (maxDischargeDepth := 7) [go_sem]) (by simp (maxDischargeDepth := 7) [go_sem]) (by simp (maxDischargeDepth := 7) [go_sem]) (by simp (maxDischargeDepth := 7) [go_sem]) (fun o => by simp (maxDischargeDepth := 7) [go_sem])
    have vl := lt_of_cell v0
    obtain ⟨X2, hX2⟩ : ∃ X2, X2 = w.heap.size + 1 + 1 := ⟨_, rfl⟩
    obtain ⟨X1, hX1⟩ : ∃ X1, X1 = w.heap.size + 1 := ⟨_, rfl⟩
    have HX : Hid (w.heap.size ≤ X1 ∧ w.heap.size ≤ X2 ∧ X1 ≠ X2 ∧ X1 ≠ w.heap.size ∧ X2 ≠ w.heap.size) := by show _ ∧ _; omega
    rw [← hX2] at hth hzX2 ⊢
    rw [← hX1] at v0 v1 v2 v3 vf vl ⊢
    clear hX1 hX2 hx1 rZ
    have hth4 := there_set4 hth X1 (.int .i64 cap) (.slice A 0 c) (.bool lag) (.bool cl)
    have hth5 : World.there ((((w1.setCell ⟨X1, 0, none⟩ (.int .i64 cap)).setCell ⟨X1, 1, none⟩ (.slice A 0 c)).setCell ⟨X1, 2, none⟩ (.bool lag)).setCell ⟨X1, 3, none⟩ (.bool cl)) X2 0 x.cells.toArray.size := by rw [List.size_toArray, hx66]; exact hth4
    have Z1 := set4_range (a := .int .i64 cap) (b := .slice A 0 c) (c := .bool lag) (d := .bool cl) v0 v1 v2 v3
    have Z2 := World.rangeAt_setCells_apart Z1 X2 0 x.cells (.inl HX.out.2.2.1)
    have Y2 := World.rangeAt_setCells_same _ X2 0 x.cells (by rw [hx66]; exact hth4)
    have K2 := Ext.setCells HX.out.2.1 x.cells 0 (ext_set4 kk HX.out.1 (.int .i64 cap) (.slice A 0 c) (.bool lag) (.bool cl))
    have HF := Lib.hid (And.intro Z2 (And.intro Y2 K2))
    clear Z1 Z2 Y2 K2 hth hth4
    go_wp2_with (refine wpList_store_mid rfl 33 _ _ rfl X2 0 x.cells.toArray rfl rfl (by with_reducible exact hth5) (by rw [List.size_toArray]; exact hi66) (all_oneCell_toArray (Note.one x)) ?_; rw [List.toList_toArray]; generalize (((((w1.setCell ⟨X1, 0, none⟩ (.int .i64 cap)).setCell ⟨X1, 1, none⟩ (.slice A 0 c)).setCell ⟨X1, 2, none⟩ (.bool lag)).setCell ⟨X1, 3, none⟩ (.bool cl)).setCells X2 0 x.cells) = W9 at *)
    obtain ⟨Z2, Y2, K2⟩ := HF.out
    refine bodyPost_ret (v := .tuple #[.agg #[.int .i64 cap, .slice A 0 c, .bool lag, .bool cl], .agg x.cells.toArray, .bool false]) ?_ rfl ⟨⟨_, _, rfl, HB.out _ K2⟩, K2⟩
    have hl6 := run_loadVar_mid (P := Try.prog) _ X1 0 24 _ _ Z2 Try.underlying24 rfl (by kernel_rfl)
    have hl7 := run_loadVar_mid (P := Try.prog) _ X2 0 33 _ _ Y2 Try.underlying33 rfl hi66
    simp only [results, Try.results17]
    simp [Sem.run_bind, Sem.run_pure, hl6, hl7, asAddr]
set_option maxRecDepth 4000 in
set_option maxHeartbeats 2000000 in
theorem rtake_some (ba oa m c : Nat) (y : Note) (NS : List Note) (cap : Int) (lag cl : Bool) (w : World) (h : TL w (some ⟨ba, oa, none⟩) (m + 1) c (y :: NS)) (hm : Box.mayV cap (y :: NS) = true) :
    Calls Try.prog 17 #[.agg #[.int .i64 cap, .slice (some ⟨ba, oa, none⟩) (m + 1) c, .bool lag, .bool cl]] w fun e w' => (∃ A' c', e = .returned (.tuple #[.agg #[.int .i64 cap, .slice A' m c', .bool lag, .bool cl], .agg y.cells.toArray, .bool true]) ∧ TL w' A' m c' NS) ∧ Ext w w' := by
  have HM := Lib.hid (fun W (k : Ext w W) => rmay_any _ (m + 1) c (y :: NS) cap lag cl W (h.ext k))
  rw [hm] at HM
  obtain ⟨b0, o0, e0, hr, hyo⟩ := h.at' (show 0 < m + 1 by omega)
  obtain ⟨rfl, rfl⟩ : ba = b0 ∧ oa = o0 := by simpa using e0
  replace hr : w.rangeAt ba oa y.cells := by simpa using hr
  replace hyo : y.Ok := hyo
  have h8 := may_len hm
  have hlen := h.len
  simp at h8 hlen
  have hcap := h.row.cap
  have HR := Lib.hid hr
  have HT := Lib.hid (fun W (k : Ext w W) => (h.ext k).tail')
  have hokN : Hid (∀ z ∈ NS, z.Ok) := fun z hz => h.ok z (by simp [hz])
  have hx66 : y.cells.length = 66 := Note.len hyo
  have hi66 : (Try.prog.info? 33).map (·.size) = some y.cells.length := by rw [hx66]; kernel_rfl
  have hu33 := Try.underlying33
  have hu24 := Try.underlying24
  have hi4 : (Try.prog.info? 24).map (·.size) = some 4 := by kernel_rfl
  have hzn := zeroNote
  have hzs := zNote_size
  have hze := zNote_ne
  have g0 : ((m : Int) + 1 == 0) = false := by simp; omega
  have g1 : (1 : Int) ≤ (m : Int) + 1 := by omega
  obtain ⟨Ao, hAo⟩ : ∃ Ao, (if c = 1 then some (⟨ba, oa, none⟩ : Addr) else some ⟨ba, oa + 66, none⟩) = Ao := ⟨_, rfl⟩
  have HAo := Lib.hid hAo
  clear h hm e0 hr
  go_enter Try.func17, Try.ntmps17
  go_wp2_with fail
  refine (HM.out _ ((by repeat (first | assumption | exact Ext.refl _ | refine Ext.alloc ?_ _ | refine Ext.drew ?_ | refine Ext.drewN ?_ _ | refine Ext.setCell ?_ (by first | (simp; done) | omega | (simp; omega)) _ | refine Ext.trans (by assumption) ?_)))).mono ?_
  rintro e w1 ⟨rfl, hx1⟩
  have kk : Ext w w1 := Ext.trans ((by repeat (first | assumption | exact Ext.refl _ | refine Ext.alloc ?_ _ | refine Ext.drew ?_ | refine Ext.drewN ?_ _ | refine Ext.setCell ?_ (by first | (simp; done) | omega | (simp; omega)) _ | refine Ext.trans (by assumption) ?_))) hx1
  have rZ := rangeAt_ext (range_at (w := (w.alloc (.cells #[.int .i64 cap, .slice (some ⟨ba, oa, none⟩) (m + 1) c, .bool lag, .bool cl] 24)).alloc (.cells #[.int .i64 0, .slice none 0 0, .bool false, .bool false] 24)) (B := w.heap.size + 1 + 1) Note.zero.cells 33 (by simp)) hx1
  have hth : w1.there (w.heap.size + 1 + 1) 0 66 := there_of rZ (by first | exact hx66 | exact Note.len Note.zero_ok) (hx1.free (range_at (w := (w.alloc (.cells #[.int .i64 cap, .slice (some ⟨ba, oa, none⟩) (m + 1) c, .bool lag, .bool cl] 24)).alloc (.cells #[.int .i64 0, .slice none 0 0, .bool false, .bool false] 24)) (B := w.heap.size + 1 + 1) Note.zero.cells 33 (by simp) 0 _ (Note.at0 Note.zero)) (fun o => by simp (maxDischargeDepth := 7) [go_sem]))
  have hzX2 := lt_of_cell (rZ 0 _ (Note.at0 Note.zero))
  obtain ⟨u0, u1, u2, u3, uf⟩ := (hx1).box4 (B := w.heap.size) (a := .int .i64 cap) (b := .slice (some ⟨ba, oa, none⟩) (m + 1) c) (c := .bool lag) (d := .bool cl) (by simp (maxDischargeDepth := 7) [go_sem]) (by simp (maxDischargeDepth := 7) [go_sem]) (by simp (maxDischargeDepth := 7) [go_sem]) (by simp (maxDischargeDepth := 7) [go_sem]) (fun o => by simp (maxDischargeDepth := 7) [go_sem])
  have ul := lt_of_cell u0
  obtain ⟨v0, v1, v2, v3, vf⟩ := (hx1).box4 (B := w.heap.size + 1) (a := .int .i64 0) (b := .slice none 0 0) (c := .bool false) (d := .bool false) (by simp (maxDischargeDepth := 7) [go_sem]) (by simp (maxDischargeDepth := 7) [go_sem]) (by simp (maxDischargeDepth := 7) [go_sem]) (by simp (maxDischargeDepth := 7) [go_sem]) (fun o => by simp (maxDischargeDepth := 7) [go_sem])
  have vl := lt_of_cell v0
  obtain ⟨X2, hX2⟩ : ∃ X2, X2 = w.heap.size + 1 + 1 := ⟨_, rfl⟩
  obtain ⟨X1, hX1⟩ : ∃ X1, X1 = w.heap.size + 1 := ⟨_, rfl⟩
  have HX : Hid (w.heap.size ≤ X1 ∧ w.heap.size ≤ X2 ∧ X1 ≠ X2 ∧ X1 ≠ w.heap.size ∧ X2 ≠ w.heap.size) := by show _ ∧ _; omega
  rw [← hX2] at hth hzX2 ⊢
  rw [← hX1] at v0 v1 v2 v3 vf vl ⊢
  clear hX1 hX2 hx1 rZ
  have rY := rangeAt_ext HR.out kk
  have kA : Ext w1 (w1.alloc (.cells y.cells.toArray 33)) := (Ext.refl _).alloc _
  have hTt := HT.out _ (kk.trans kA)
  rw [HAo.out] at hTt
  have HSRC := Lib.hid hTt.src
  have hbyt : (0 + m) * 80 ≤ 140737488355328 := by omega
  go_upto_region 6 with (first | (refine wpList_load_mid rfl 33 _ rfl _ _ rfl y.cells _ rY Try.underlying33 rfl hi66 ?_) | (refine wpList_store_mid rfl 33 _ _ rfl _ 0 y.cells.toArray rfl rfl (there_at (by simp) _ (by rw [List.size_toArray, hx66]; decide)) (by rw [List.size_toArray]; exact hi66) (all_oneCell_toArray (Note.one y)) ?_; rw [List.toList_toArray, setCells_at (by simp) (by rw [hx66]; rfl)]) | (at_builtin; refine wpList_app rowNotes rfl _ _ rfl w1.heap.size (.slice none 0 0) 0 [] rfl (World.ownsRow_nil _ _ _ _) Ao m (c - 1) (flatT NS) rfl HSRC.out hbyt kA.size ?_; intro q5 w5 hown5 hgrow5 hat5; obtain ⟨A5, c5, rfl⟩ := own_form' hown5; have k5 := kA.grown hgrow5 (fun j e => by cases e); have bU := (Box4.mk u0 u1 u2 u3 uf).ext k5; have x1 := bU.c1; have xf := bU.f))
  rw [Nat.zero_add, List.nil_append] at hown5
  have hnX0 : (Value.slice A5 m c5).ownBlock ≠ some w.heap.size := own_off hown5 (.inl ul)
  obtain ⟨A7, c7, e7, hT7, hf7⟩ := TL.own (own_setCell' (a := ⟨w.heap.size, 1, none⟩) hown5 hnX0 (.slice A5 m c5)) (by omega) hlen hokN.out
  obtain ⟨rfl, rfl⟩ : A5 = A7 ∧ c5 = c7 := by simpa using e7
  have hx5 : Ext w (w5.setCell ⟨w.heap.size, 1, none⟩ (.slice A5 m c5)) := (kk.trans k5).setCell (p := ⟨w.heap.size, 1, none⟩) (Nat.le_refl _) _
  have B6 := (bU.set1 A5 m c5).box
  have N6 := range_setB (rangeAt_ext (range_at (w := w1) (B := w1.heap.size) y.cells 33 rfl) ((Ext.refl _).grown hgrow5 (fun j e => by cases e))) (p := ⟨w.heap.size, 1, none⟩) (by show w1.heap.size ≠ w.heap.size; omega) (.slice A5 m c5)
  have hth2 : World.there (w5.setCell ⟨w.heap.size, 1, none⟩ (.slice A5 m c5)) X1 0 4 := there_box (((Box4.mk v0 v1 v2 v3 vf).ext k5).other (p := ⟨w.heap.size, 1, none⟩) HX.out.2.2.2.1 (.slice A5 m c5)).box (((Box4.mk v0 v1 v2 v3 vf).ext k5).other (p := ⟨w.heap.size, 1, none⟩) HX.out.2.2.2.1 (.slice A5 m c5)).f
  have hth3 : World.there (w5.setCell ⟨w.heap.size, 1, none⟩ (.slice A5 m c5)) X2 0 66 := World.there_setCells (there_ext hth k5) w.heap.size 1 [.slice A5 m c5]
  have hX6 : w1.heap.size ≠ X1 ∧ w1.heap.size ≠ X2 := by omega
  have hA1 : ∀ ad, A5 = some ad → ad.block ≠ X1 ∧ ad.block ≠ X2 := fun ad e => by have := hf7 ad e; omega
  have HTL := Lib.hid hT7
  have HXX := Lib.hid hx5
  clear hown5 hgrow5 hat5 k5 bU x1 xf u0 u1 u2 u3 uf v0 v1 v2 v3 vf hth rY kA hTt HSRC hnX0 hT7 hf7 hx5 e7 hAo HT HR HM kk
  generalize w5.setCell ⟨w.heap.size, 1, none⟩ (.slice A5 m c5) = W5 at *
  generalize w1.heap.size = X6 at *
  refine wp_region_noPanic ?_
  refine wp_region_held_drew (S := fun w' => w'.rangeAt w.heap.size 0 [Value.int .i64 cap, Value.slice A5 m c5, Value.bool lag, Value.bool cl] ∧ w'.rangeAt X6 0 y.cells) (by kernel_rfl) ⟨rangeAt_ext B6 ((Ext.refl _).drew), rangeAt_ext N6 ((Ext.refl _).drew)⟩ (fun hHeld => ?_)
  change wpAnyH _ _ _ _ _ 5 (Array.replicate 5 false) _ _
  refine wpAnyH_take (i := 0) (v := .agg ([Value.int .i64 cap, Value.slice A5 m c5, Value.bool lag, Value.bool cl]).toArray) rfl (by kernel_rfl) (by kernel_rfl) (by kernel_rfl) (fun _ _ _ h => h) (yieldsIf_load_mid (by rfl) 24 (.tmp 1) (by rfl) w.heap.size 0 (by go_simp) ([Value.int .i64 cap, Value.slice A5 m c5, Value.bool lag, Value.bool cl]) _ (fun w hw => hw.1) hu24 (by rfl) hi4) hHeld ?_
  (try simp only [List.getElem_toArray, List.getElem_cons_zero, List.getElem_cons_succ, Act.put, List.setIfInBounds_toArray, List.set_cons_zero, List.set_cons_succ])
  refine wpAnyH_take (i := 1) (v := .agg (y.cells).toArray) rfl (by kernel_rfl) (by kernel_rfl) (by kernel_rfl) (fun _ _ _ h => h) (yieldsIf_load_mid (by rfl) 33 (.tmp 6) (by rfl) X6 0 (by go_simp) (y.cells) _ (fun w hw => hw.2) hu33 (by rfl) hi66) hHeld ?_
  (try simp only [List.getElem_toArray, List.getElem_cons_zero, List.getElem_cons_succ, Act.put, List.setIfInBounds_toArray, List.set_cons_zero, List.set_cons_succ])
  refine wpAnyH_ready (rs := [2]) (by kernel_rfl) (by simp) ?_
  refine AllReadyH.cons rfl (fun K hK => ?_) ?_
  · have hxD := (Ext.refl W5).drew
    have k6 := HXX.out.trans hxD
    have hT6 := HTL.out.ext hxD
    have B6' := rangeAt_ext B6 hxD
    have N6' := rangeAt_ext N6 hxD
    have hth2' := there_ext hth2 hxD
    have hth3' := there_ext hth3 hxD
    clear hHeld hxD B6 N6 hth2 hth3 HTL HXX
    generalize W5.drew = W6 at *
    rw [if_pos (by rfl)]
    refine wp_store_mid 24 _ _ (by rfl) X1 0 #[Value.int .i64 cap, Value.slice A5 m c5, Value.bool lag, Value.bool cl] (by go_simp) (by go_simp) hth2' hi4 (all_oneCell_toArray (by intro v hv; simp at hv; rcases hv with rfl | rfl | rfl | rfl <;> rfl)) ?_
    have B7 := World.rangeAt_setCells_apart B6' X1 0 [Value.int .i64 cap, Value.slice A5 m c5, Value.bool lag, Value.bool cl] (.inl HX.out.2.2.2.1.symm)
    have N7 := World.rangeAt_setCells_apart N6' X1 0 [Value.int .i64 cap, Value.slice A5 m c5, Value.bool lag, Value.bool cl] (.inl hX6.1)
    have Z7 := World.rangeAt_setCells_same W6 X1 0 [Value.int .i64 cap, Value.slice A5 m c5, Value.bool lag, Value.bool cl] hth2'
    have hT7 := TL.setCells (B := X1) (fun ad e => (hA1 ad e).1) [Value.int .i64 cap, Value.slice A5 m c5, Value.bool lag, Value.bool cl] 0 hT6
    have k7 : Ext w (W6.setCells X1 0 [Value.int .i64 cap, Value.slice A5 m c5, Value.bool lag, Value.bool cl]) := Ext.setCells HX.out.1 _ _ k6
    have hth7 := World.there_setCells hth3' X1 0 [Value.int .i64 cap, Value.slice A5 m c5, Value.bool lag, Value.bool cl]
    change K _ (W6.setCells X1 0 [Value.int .i64 cap, Value.slice A5 m c5, Value.bool lag, Value.bool cl])
    clear B6' N6' hth2' hth3' hT6 k6
    generalize W6.setCells X1 0 [Value.int .i64 cap, Value.slice A5 m c5, Value.bool lag, Value.bool cl] = W7 at *
    refine hK.out _ _ ⟨B7, N7⟩ (fun hHeld => ?_)
    clear hK K
    (try simp only [List.getElem_toArray, List.getElem_cons_zero, List.getElem_cons_succ, Act.put, List.setIfInBounds_toArray, List.set_cons_zero, List.set_cons_succ])
    refine wpAnyH_ready (rs := [3]) (by kernel_rfl) (by simp) ?_
    refine AllReadyH.cons rfl (fun K hK => ?_) ?_
    · rw [if_pos (by rfl)]
      refine wp_store_mid 33 _ _ (by rfl) X2 0 y.cells.toArray (by go_simp) (by go_simp) (by rw [List.size_toArray, hx66]; exact hth7) (by rw [List.size_toArray]; exact hi66) (all_oneCell_toArray (Note.one y)) ?_
      rw [List.toList_toArray]
      have B8 := World.rangeAt_setCells_apart B7 X2 0 y.cells (.inl HX.out.2.2.2.2.symm)
      have N8 := World.rangeAt_setCells_apart N7 X2 0 y.cells (.inl hX6.2)
      have Z8 := World.rangeAt_setCells_apart Z7 X2 0 y.cells (.inl HX.out.2.2.1)
      have Y8 := World.rangeAt_setCells_same W7 X2 0 y.cells (by rw [hx66]; exact hth7)
      have hT8 := TL.setCells (B := X2) (fun ad e => (hA1 ad e).2) y.cells 0 hT7
      have k8 : Ext w (W7.setCells X2 0 y.cells) := Ext.setCells HX.out.2.1 _ _ k7
      clear B7 N7 Z7 hT7 k7 hth7
      generalize W7.setCells X2 0 y.cells = W8 at *
      refine hK.out _ _ ⟨B8, N8⟩ (fun hHeld => ?_)
      clear hK K
      (try simp only [List.getElem_toArray, List.getElem_cons_zero, List.getElem_cons_succ, Act.put, List.setIfInBounds_toArray, List.set_cons_zero, List.set_cons_succ])
      refine wpAnyH_take (i := 4) (v := Value.bool true) rfl (by kernel_rfl) (by kernel_rfl) (by kernel_rfl) (fun _ _ _ h => h) (Or.inl ⟨by rfl, fun _ hSw => by first | (go_simp; done) | (go_simp; with_reducible rfl)⟩) hHeld ?_
      (try simp only [List.getElem_toArray, List.getElem_cons_zero, List.getElem_cons_succ, Act.put, List.setIfInBounds_toArray, List.set_cons_zero, List.set_cons_succ])
      refine wpAnyH_done (by kernel_rfl) ?_ _
      refine NoPanic.normal ?_
      have hl6 := run_loadVar_mid (P := Try.prog) W8 X1 0 24 _ _ Z8 hu24 rfl hi4
      have hl7 := run_loadVar_mid (P := Try.prog) W8 X2 0 33 _ _ Y8 hu33 rfl hi66
      have HT8 := Lib.hid hT8
      clear B8 N8 Z8 Y8 hT8 hHeld
      go_wp2
      refine bodyPost_ret (v := .tuple #[.agg #[.int .i64 cap, .slice A5 m c5, .bool lag, .bool cl], .agg y.cells.toArray, .bool true]) ?_ rfl ⟨⟨_, _, rfl, HT8.out⟩, k8⟩
      simp only [results, Try.results17]
      simp [Sem.run_bind, Sem.run_pure, hl6, hl7, asAddr]
    · exact AllReadyH.nil
  · exact AllReadyH.nil
theorem rtake_any (A : Option Addr) (n c : Nat) (NS : List Note) (cap : Int) (lag cl : Bool) (w : World) (h : TL w A n c NS) (b : Bool) (L : List Note) (x : Note) (hp : Box.takeD cap NS = (b, L, x)) :
    Calls Try.prog 17 #[.agg #[.int .i64 cap, .slice A n c, .bool lag, .bool cl]] w fun e w' => (∃ A' c', e = .returned (.tuple #[.agg #[.int .i64 cap, .slice A' L.length c', .bool lag, .bool cl], .agg x.cells.toArray, .bool b]) ∧ TL w' A' L.length c' L) ∧ Ext w w' := by
  have hl := h.len
  cases hm : Box.mayV cap NS with
  | false =>
    rw [Box.take_no hm] at hp
    obtain ⟨rfl, rfl, rfl⟩ : false = b ∧ NS = L ∧ Note.zero = x := by simpa using hp
    rw [hl]; exact rtake_same A n c NS cap lag cl w h false hm (.inl rfl)
  | true =>
    rw [Box.take_yes hm] at hp
    cases NS with
    | nil =>
      obtain ⟨rfl, rfl, rfl⟩ : false = b ∧ [] = L ∧ Note.zero = x := by simpa [Box.takeW] using hp
      obtain rfl : n = 0 := by simpa using hl.symm
      exact rtake_same A 0 c [] cap lag cl w h true hm (.inr rfl)
    | cons y l =>
      obtain ⟨rfl, rfl, rfl⟩ : true = b ∧ l = L ∧ y = x := by simpa [Box.takeW] using hp
      obtain rfl : n = l.length + 1 := by simpa using hl.symm
      obtain ⟨ba, oa, rfl, _, _⟩ := h.at' (show 0 < l.length + 1 by omega)
      exact rtake_some ba oa l.length c y l cap lag cl w h hm
end Go.Proofs.Ytfngnajcmdaphaa
