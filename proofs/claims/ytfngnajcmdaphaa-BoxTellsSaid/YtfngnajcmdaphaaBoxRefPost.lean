/- The document's answer of layer 5: Post, where the note comes in. -/
import Derived.Test.YtfngnajcmdaphaaBoxRefDo
namespace Go.Proofs.Ytfngnajcmdaphaa
open Go.RowKit Go.WideShapes Go.ChangeShapes
set_option linter.unusedVariables false
set_option linter.unusedSimpArgs false










set_option maxRecDepth 4000 in
set_option maxHeartbeats 4000000 in
theorem rpost_app (A : Option Addr) (n c : Nat) (NS : List Note) (cap : Int) (lag : Bool) (x : Note) (w : World) (h : TL w A n c NS) (hxo : x.Ok) (hm : Box.mayV cap NS = true) (hc : ¬ (0 < n ∧ x.ver ≤ (Box.nt NS (n - 1)).ver)) (he : ¬ (n : Int) = cap) :
    Calls Try.prog 16 #[.agg #[.int .i64 cap, .slice A n c, .bool lag, .bool false], .agg x.cells.toArray] w fun e w' => (∃ A' c', e = .returned (.agg #[.int .i64 cap, .slice A' (n + 1) c', .bool lag, .bool false]) ∧ TL w' A' (n + 1) c' (NS ++ [x])) ∧ Ext w w' := by
  have HM := Lib.hid (fun W (k : Ext w W) => rmay_any A n c NS cap lag false W (h.ext k))
  have HB := Lib.hid (fun W (k : Ext w W) => h.ext k)
  have hroom := h.row.room
  have hlen := h.len
  have h8 := may_len hm
  rw [hlen] at h8
  have hx66 : x.cells.length = 66 := Note.len hxo
  have hi66 : (Try.prog.info? 33).map (·.size) = some x.cells.length := by rw [hx66]; kernel_rfl
  have HOK : Hid (∀ y ∈ NS ++ [x], y.Ok) := fun y hy => by
    rcases List.mem_append.1 hy with h' | h'
    · exact h.ok y h'
    · rw [List.mem_singleton.1 h']; exact hxo
  have HLN := Lib.hid hlen
  rw [hm] at HM
  have ge : ((n : Int) == cap) = false := by simpa using he
  clear hlen
  by_cases h0 : n = 0
  · subst h0
    clear hm hc h he
    obtain ⟨X1, hX1⟩ : ∃ X1, X1 = w.heap.size + 1 := ⟨_, rfl⟩
    obtain ⟨X2, hX2⟩ : ∃ X2, X2 = w.heap.size + 1 + 1 := ⟨_, rfl⟩
    have HX : Hid (w.heap.size ≤ X2 ∧ X1 ≠ w.heap.size ∧ X2 ≠ w.heap.size) := by show _ ∧ _; omega
    go_enter Try.func16, Try.ntmps16
    go_wp2_with fail
    refine (HM.out _ ((by repeat (first | assumption | exact Ext.refl _ | refine Ext.alloc ?_ _ | refine Ext.drew ?_ | refine Ext.drewN ?_ _ | refine Ext.setCell ?_ (by first | (simp; done) | omega | (simp; omega)) _ | refine Ext.trans (by assumption) ?_)))).mono ?_
    rintro e w1 ⟨rfl, hx1⟩
    have kk : Ext w w1 := Ext.trans ((by repeat (first | assumption | exact Ext.refl _ | refine Ext.alloc ?_ _ | refine Ext.drew ?_ | refine Ext.drewN ?_ _ | refine Ext.setCell ?_ (by first | (simp; done) | omega | (simp; omega)) _ | refine Ext.trans (by assumption) ?_))) hx1
    have rN := rangeAt_ext (range_at (w := w.alloc (.cells #[.int .i64 cap, .slice A 0 c, .bool lag, .bool false] 24)) (B := w.heap.size + 1) x.cells 33 (by simp)) (((Ext.refl _).alloc (.cells #[.int .i64 0, .slice none 0 0, .bool false, .bool false] 24)).trans hx1)
    have d0 := rN 0 _ (Note.at0 x)
    simp only [Nat.add_zero] at d0
    obtain ⟨u0, u1, u2, u3, uf⟩ := (hx1).box4 (B := w.heap.size) (a := .int .i64 cap) (b := .slice A 0 c) (c := .bool lag) (d := .bool false) (by simp (maxDischargeDepth := 7) [go_sem]) (by simp (maxDischargeDepth := 7) [go_sem]) (by simp (maxDischargeDepth := 7) [go_sem]) (by simp (maxDischargeDepth := 7) [go_sem]) (fun o => by simp (maxDischargeDepth := 7) [go_sem])
    have ul := lt_of_cell u0
    obtain ⟨v0, v1, v2, v3, vf⟩ := (hx1).box4 (B := w.heap.size + 1 + 1) (a := .int .i64 0) (b := .slice none 0 0) (c := .bool false) (d := .bool false) (by simp (maxDischargeDepth := 7) [go_sem]) (by simp (maxDischargeDepth := 7) [go_sem]) (by simp (maxDischargeDepth := 7) [go_sem]) (by simp (maxDischargeDepth := 7) [go_sem]) (fun o => by simp (maxDischargeDepth := 7) [go_sem])
    have vl := lt_of_cell v0
    rw [← hX2] at v0 v1 v2 v3 vf vl ⊢
    rw [← hX1] at rN d0 ⊢
    clear hX1 hX2 hx1
    go_wp2
    refine wp_region_quiet_lit (by kernel_rfl) (by kernel_rfl) ?_
    repeat (first | go_big_quiet_skip | (go_big_quiet_want; first | ((fail); (try simp only [Act.put, List.setIfInBounds_toArray, List.set_cons_zero, List.set_cons_succ]); go_big_quiet_on) | (go_big_quiet_op; first | go_big_quiet_on | go_big_quiet_call (fail))))
    refine wpQuiet_nil ?_
    intro _ hw'
    obtain ⟨nq', hw''⟩ := hw'
    subst hw''
    have kd : Ext w1 (w1.drewN nq') := (Ext.refl _).drewN _
    replace uf := (kd).free u0 uf
    replace u0 := (kd).cell u0
    replace u1 := (kd).cell u1
    replace u2 := (kd).cell u2
    replace u3 := (kd).cell u3
    replace ul := lt_of_cell u0
    replace vf := (kd).free v0 vf
    replace v0 := (kd).cell v0
    replace v1 := (kd).cell v1
    replace v2 := (kd).cell v2
    replace v3 := (kd).cell v3
    replace vl := lt_of_cell v0
    replace rN := rangeAt_ext rN kd
    replace d0 := kd.cell d0
    replace kk := kk.trans kd
    clear kd
    generalize w1.drewN nq' = w2 at *
    go_upto_region 7 with fail
    have RN := Lib.hid rN
    have BU := Lib.hid (Box4.mk u0 u1 u2 u3 uf)
    have BV := Lib.hid (Box4.mk v0 v1 v2 v3 vf)
    have nl : X1 < w2.heap.size := lt_of_cell d0
    refine wp_region_noPanic ?_
    refine wp_region_held_drew (S := fun w' => w'.rangeAt X1 0 x.cells) (by kernel_rfl) (rangeAt_ext rN ((by repeat (first | assumption | exact Ext.refl _ | refine Ext.alloc ?_ _ | refine Ext.drew ?_ | refine Ext.drewN ?_ _ | refine Ext.setCell ?_ (by first | (simp; done) | omega | (simp; omega)) _ | refine Ext.trans (by assumption) ?_)))) (fun hHeld => ?_)
    change wpAnyH _ _ _ _ _ 8 (Array.replicate 8 false) _ _
    clear rN d0
    refine wpAnyH_take (i := 0) (v := Value.pointer (some ⟨w.heap.size, 1, none⟩)) rfl (by kernel_rfl) (by kernel_rfl) (by kernel_rfl) (fun _ _ _ h => h) (Or.inl ⟨by rfl, fun _ hSw => by first | (go_simp; done) | (go_simp; with_reducible rfl)⟩) hHeld ?_
    (try simp only [List.getElem_toArray, List.getElem_cons_zero, List.getElem_cons_succ, Act.put, List.setIfInBounds_toArray, List.set_cons_zero, List.set_cons_succ])
    refine wpAnyH_take (i := 3) (v := .agg (x.cells).toArray) rfl (by kernel_rfl) (by kernel_rfl) (by kernel_rfl) (fun _ _ _ h => h) (yieldsIf_load_mid (by rfl) 33 (.tmp 3) (by rfl) X1 0 (by go_simp) (x.cells) _ (fun w hw => hw) Try.underlying33 (by rfl) hi66) hHeld ?_
    (try simp only [List.getElem_toArray, List.getElem_cons_zero, List.getElem_cons_succ, Act.put, List.setIfInBounds_toArray, List.set_cons_zero, List.set_cons_succ])
    refine wpAnyH_ready (rs := [1, 4]) (by kernel_rfl) (by simp) ?_
    refine AllReadyH.cons rfl (fun K hK => ?_) ?_
    · go_simp
      refine hK.out _ _ hHeld (fun hHeld => ?_)
      clear hK K
      (try simp only [List.getElem_toArray, List.getElem_cons_zero, List.getElem_cons_succ, Act.put, List.setIfInBounds_toArray, List.set_cons_zero, List.set_cons_succ])
      refine wpAnyH_ready (rs := [2, 4]) (by kernel_rfl) (by simp) ?_
      refine AllReadyH.cons rfl (fun K hK => ?_) ?_
      · refine step_app rowNotes (by rfl) (.const (Value.slice none 0 0)) (.tmp 44) (by rfl) w2.heap.size (.slice none 0 0) 0 [] (by go_simp) (World.ownsRow_nil _ _ _ _) A 0 c (flatT NS) (by go_simp) ((HB.out _ (kk.trans ((Ext.refl w2).drew))).src) (by omega) (((Ext.refl w2).drew)).size ?_
        intro q3 w3 hown3 hgrow3 hat3
        have k3 : Ext w2 w3 := (((Ext.refl w2).drew)).grown hgrow3 (fun j e => by cases e)
        rw [Nat.zero_add, List.nil_append] at hown3
        refine hK.out _ _ (rangeAt_ext RN.out k3) (fun hHeld => ?_)
        clear hK K
        (try simp only [List.getElem_toArray, List.getElem_cons_zero, List.getElem_cons_succ, Act.put, List.setIfInBounds_toArray, List.set_cons_zero, List.set_cons_succ])
        refine wpAnyH_ready (rs := [4]) (by kernel_rfl) (by simp) ?_
        refine AllReadyH.cons rfl (fun K hK => ?_) ?_
        · rw [if_pos (by rfl)]
          refine wp_build1 46 (by rfl) x.cells (by go_simp) hx66 ?_
          have kV : Ext w2 (w3.alloc (.cells x.cells.toArray 33)) := k3.alloc _
          have hownV := own_ext hown3 ((Ext.refl w3).alloc (.cells x.cells.toArray 33))
          have hsrcV : Src (w3.alloc (.cells x.cells.toArray 33)) 66 (some ⟨w3.heap.size, 0, none⟩) 1 1 x.cells := src_atN (by rw [hx66]) (Note.one x) rfl
          refine hK.out _ _ (rangeAt_ext RN.out kV) (fun hHeld => ?_)
          clear hK K
          (try simp only [List.getElem_toArray, List.getElem_cons_zero, List.getElem_cons_succ, Act.put, List.setIfInBounds_toArray, List.set_cons_zero, List.set_cons_succ])
          refine wpAnyH_ready (rs := [5]) (by kernel_rfl) (by simp) ?_
          refine AllReadyH.cons rfl (fun K hK => ?_) ?_
          · refine step_app rowNotes (by rfl) (.tmp 45) (.tmp 47) (by rfl) w2.heap.size q3 0 (flatT NS) (by go_simp) hownV (some ⟨w3.heap.size, 0, none⟩) 1 1 x.cells (by go_simp) hsrcV (by omega) kV.size ?_
            intro q4 w4 hown4 hgrow4 hat4
            rw [← flatT_snoc] at hown4
            have hq0 : q3.ownBlock ≠ some w.heap.size := own_off hownV (.inl ul)
            have hq1 : q3.ownBlock ≠ some X1 := own_off hownV (.inl nl)
            have hq2 : q3.ownBlock ≠ some X2 := own_off hownV (.inl vl)
            have b4 := (BU.out.ext kV).grown hgrow4 hq0
            have b5 := (BV.out.ext kV).grown hgrow4 hq2
            have k4 : Ext w w4 := (kk.trans kV).grown hgrow4 (fun j e => Nat.le_trans kk.size (own_from hownV j e))
            refine hK.out _ _ (grown_range hgrow4 (rangeAt_ext RN.out kV) hq1) (fun hHeld => ?_)
            clear hK K
            (try simp only [List.getElem_toArray, List.getElem_cons_zero, List.getElem_cons_succ, Act.put, List.setIfInBounds_toArray, List.set_cons_zero, List.set_cons_succ])
            have x1 := b4.c1
            have xf := b4.f
            have hn4 : q4.ownBlock ≠ some w.heap.size := by
              rcases hat4 with h | h
              · rw [h]; exact hq0
              · rw [h]; intro e5; have e6 := Option.some.inj e5; have := kV.size; omega
            obtain ⟨A4, c4, rfl⟩ := own_form' hown4
            have hx5 : Ext w (w4.setCell ⟨w.heap.size, 1, none⟩ (.slice A4 (0 + 1) c4)) := k4.setCell (p := ⟨w.heap.size, 1, none⟩) (Nat.le_refl _) _
            have o5 := own_setCell' (a := ⟨w.heap.size, 1, none⟩) hown4 hn4 (.slice A4 (0 + 1) c4)
            have b6 := b4.set1 A4 (0 + 1) c4
            have b7 := b5.other (p := ⟨w.heap.size, 1, none⟩) HX.out.2.2 (.slice A4 (0 + 1) c4)
            have HFIN := Lib.hid (And.intro hx5 (And.intro o5 (And.intro b6 b7)))
            clear hx5 o5 b6 b7 b4 b5 hown4 hgrow4 hat4
            refine wpAnyH_take (i := 6) (v := Value.pointer (some ⟨w.heap.size, 1, none⟩)) rfl (by kernel_rfl) (by kernel_rfl) (by kernel_rfl) (fun _ _ _ h => h) (Or.inl ⟨by rfl, fun _ hSw => by first | (go_simp; done) | (go_simp; with_reducible rfl)⟩) hHeld ?_
            (try simp only [List.getElem_toArray, List.getElem_cons_zero, List.getElem_cons_succ, Act.put, List.setIfInBounds_toArray, List.set_cons_zero, List.set_cons_succ])
            refine wpAnyH_ready (rs := [7]) (by kernel_rfl) (by simp) ?_
            refine AllReadyH.cons rfl (fun K hK => ?_) ?_
            · go_simp
              refine hK.out _ _ (range_setB hHeld (p := ⟨w.heap.size, 1, none⟩) HX.out.2.1 _) (fun hHeld => ?_)
              clear hK K
              (try simp only [List.getElem_toArray, List.getElem_cons_zero, List.getElem_cons_succ, Act.put, List.setIfInBounds_toArray, List.set_cons_zero, List.set_cons_succ])
              refine wpAnyH_done (by kernel_rfl) ?_ _
              refine NoPanic.normal ?_
              obtain ⟨hx5, o5, b6, b7⟩ := HFIN.out
              obtain ⟨A7, c7, e7, hT7, hf7⟩ := TL.own o5 (by omega) (by rw [List.length_append, HLN.out]; rfl) HOK.out
              obtain ⟨rfl, rfl⟩ : A4 = A7 ∧ c4 = c7 := by simpa using e7
              have hne7 : ∀ ad, A4 = some ad → ad.block ≠ X2 := fun ad e => by have := hf7 ad e; omega
              have HT7 := Lib.hid hT7
              clear HFIN o5 hT7 e7 hf7 u0 u1 u2 u3 uf v0 v1 v2 v3 vf x1 xf hHeld kV hownV hsrcV hq0 hq1 hq2 k4 hn4
              replace kk := hx5
              clear hx5
              generalize w4.setCell ⟨w.heap.size, 1, none⟩ (.slice A4 (0 + 1) c4) = w5 at *
              have u0 := b6.c0
              have u1 := b6.c1
              have u2 := b6.c2
              have u3 := b6.c3
              have uf := b6.f
              have ul' := lt_of_cell u0
              have v0 := b7.c0
              have v1 := b7.c1
              have v2 := b7.c2
              have v3 := b7.c3
              have vf := b7.f
              have vl' := lt_of_cell v0
              clear b6 b7
              go_wp2
              refine bodyPost_ret (v := .agg #[.int .i64 cap, .slice A4 (0 + 1) c4, .bool lag, .bool false]) ?_ rfl ⟨⟨_, _, rfl, ?_⟩, ext_set4 kk HX.out.1 _ _ _ _⟩
              have hl6 := run_loadVar_mid (P := Try.prog) _ X2 0 24 _ _ (set4_range (a := .int .i64 cap) (b := .slice A4 (0 + 1) c4) (c := .bool lag) (d := .bool false) v0 v1 v2 v3) Try.underlying24 rfl (by kernel_rfl)
              simp only [results, Try.results16]
              simp [Sem.run_bind, Sem.run_pure, hl6, asAddr]
              exact HT7.out.set4 hne7 _ _ _ _
            · exact AllReadyH.nil
          · exact AllReadyH.nil
        · exact AllReadyH.nil
      refine AllReadyH.cons rfl (fun K hK => ?_) ?_
      · rw [if_pos (by rfl)]
        refine wp_build1 46 (by rfl) x.cells (by go_simp) hx66 ?_
        have kW : Ext w2 (w2.drew.alloc (.cells x.cells.toArray 33)) := ((Ext.refl w2).drew).alloc _
        have hsrcW : Src (w2.drew.alloc (.cells x.cells.toArray 33)) 66 (some ⟨w2.drew.heap.size, 0, none⟩) 1 1 x.cells := src_atN (by rw [hx66]) (Note.one x) rfl
        refine hK.out _ _ (rangeAt_ext RN.out kW) (fun hHeld => ?_)
        clear hK K
        (try simp only [List.getElem_toArray, List.getElem_cons_zero, List.getElem_cons_succ, Act.put, List.setIfInBounds_toArray, List.set_cons_zero, List.set_cons_succ])
        refine wpAnyH_ready (rs := [2]) (by kernel_rfl) (by simp) ?_
        refine AllReadyH.cons rfl (fun K hK => ?_) ?_
        · refine step_app rowNotes (by rfl) (.const (Value.slice none 0 0)) (.tmp 44) (by rfl) w2.heap.size (.slice none 0 0) 0 [] (by go_simp) (World.ownsRow_nil _ _ _ _) A 0 c (flatT NS) (by go_simp) ((HB.out _ (kk.trans kW)).src) (by omega) (kW).size ?_
          intro q3 w3 hown3 hgrow3 hat3
          have k3 : Ext w2 w3 := (kW).grown hgrow3 (fun j e => by cases e)
          rw [Nat.zero_add, List.nil_append] at hown3
          refine hK.out _ _ (rangeAt_ext RN.out k3) (fun hHeld => ?_)
          clear hK K
          (try simp only [List.getElem_toArray, List.getElem_cons_zero, List.getElem_cons_succ, Act.put, List.setIfInBounds_toArray, List.set_cons_zero, List.set_cons_succ])
          have kV := k3
          have hownV := hown3
          have hsrcV := hsrcW.ext ((Ext.refl _).grown hgrow3 (fun j e => by cases e))
          refine wpAnyH_ready (rs := [5]) (by kernel_rfl) (by simp) ?_
          refine AllReadyH.cons rfl (fun K hK => ?_) ?_
          · refine step_app rowNotes (by rfl) (.tmp 45) (.tmp 47) (by rfl) w2.heap.size q3 0 (flatT NS) (by go_simp) hownV (some ⟨w2.drew.heap.size, 0, none⟩) 1 1 x.cells (by go_simp) hsrcV (by omega) kV.size ?_
            intro q4 w4 hown4 hgrow4 hat4
            rw [← flatT_snoc] at hown4
            have hq0 : q3.ownBlock ≠ some w.heap.size := own_off hownV (.inl ul)
            have hq1 : q3.ownBlock ≠ some X1 := own_off hownV (.inl nl)
            have hq2 : q3.ownBlock ≠ some X2 := own_off hownV (.inl vl)
            have b4 := (BU.out.ext kV).grown hgrow4 hq0
            have b5 := (BV.out.ext kV).grown hgrow4 hq2
            have k4 : Ext w w4 := (kk.trans kV).grown hgrow4 (fun j e => Nat.le_trans kk.size (own_from hownV j e))
            refine hK.out _ _ (grown_range hgrow4 (rangeAt_ext RN.out kV) hq1) (fun hHeld => ?_)
            clear hK K
            (try simp only [List.getElem_toArray, List.getElem_cons_zero, List.getElem_cons_succ, Act.put, List.setIfInBounds_toArray, List.set_cons_zero, List.set_cons_succ])
            have x1 := b4.c1
            have xf := b4.f
            have hn4 : q4.ownBlock ≠ some w.heap.size := by
              rcases hat4 with h | h
              · rw [h]; exact hq0
              · rw [h]; intro e5; have e6 := Option.some.inj e5; have := kV.size; omega
            obtain ⟨A4, c4, rfl⟩ := own_form' hown4
            have hx5 : Ext w (w4.setCell ⟨w.heap.size, 1, none⟩ (.slice A4 (0 + 1) c4)) := k4.setCell (p := ⟨w.heap.size, 1, none⟩) (Nat.le_refl _) _
            have o5 := own_setCell' (a := ⟨w.heap.size, 1, none⟩) hown4 hn4 (.slice A4 (0 + 1) c4)
            have b6 := b4.set1 A4 (0 + 1) c4
            have b7 := b5.other (p := ⟨w.heap.size, 1, none⟩) HX.out.2.2 (.slice A4 (0 + 1) c4)
            have HFIN := Lib.hid (And.intro hx5 (And.intro o5 (And.intro b6 b7)))
            clear hx5 o5 b6 b7 b4 b5 hown4 hgrow4 hat4
            refine wpAnyH_take (i := 6) (v := Value.pointer (some ⟨w.heap.size, 1, none⟩)) rfl (by kernel_rfl) (by kernel_rfl) (by kernel_rfl) (fun _ _ _ h => h) (Or.inl ⟨by rfl, fun _ hSw => by first | (go_simp; done) | (go_simp; with_reducible rfl)⟩) hHeld ?_
            (try simp only [List.getElem_toArray, List.getElem_cons_zero, List.getElem_cons_succ, Act.put, List.setIfInBounds_toArray, List.set_cons_zero, List.set_cons_succ])
            refine wpAnyH_ready (rs := [7]) (by kernel_rfl) (by simp) ?_
            refine AllReadyH.cons rfl (fun K hK => ?_) ?_
            · go_simp
              refine hK.out _ _ (range_setB hHeld (p := ⟨w.heap.size, 1, none⟩) HX.out.2.1 _) (fun hHeld => ?_)
              clear hK K
              (try simp only [List.getElem_toArray, List.getElem_cons_zero, List.getElem_cons_succ, Act.put, List.setIfInBounds_toArray, List.set_cons_zero, List.set_cons_succ])
              refine wpAnyH_done (by kernel_rfl) ?_ _
              refine NoPanic.normal ?_
              obtain ⟨hx5, o5, b6, b7⟩ := HFIN.out
              obtain ⟨A7, c7, e7, hT7, hf7⟩ := TL.own o5 (by omega) (by rw [List.length_append, HLN.out]; rfl) HOK.out
              obtain ⟨rfl, rfl⟩ : A4 = A7 ∧ c4 = c7 := by simpa using e7
              have hne7 : ∀ ad, A4 = some ad → ad.block ≠ X2 := fun ad e => by have := hf7 ad e; omega
              have HT7 := Lib.hid hT7
              clear HFIN o5 hT7 e7 hf7 u0 u1 u2 u3 uf v0 v1 v2 v3 vf x1 xf hHeld kV hownV hsrcV hq0 hq1 hq2 k4 hn4
              replace kk := hx5
              clear hx5
              generalize w4.setCell ⟨w.heap.size, 1, none⟩ (.slice A4 (0 + 1) c4) = w5 at *
              have u0 := b6.c0
              have u1 := b6.c1
              have u2 := b6.c2
              have u3 := b6.c3
              have uf := b6.f
              have ul' := lt_of_cell u0
              have v0 := b7.c0
              have v1 := b7.c1
              have v2 := b7.c2
              have v3 := b7.c3
              have vf := b7.f
              have vl' := lt_of_cell v0
              clear b6 b7
              go_wp2
              refine bodyPost_ret (v := .agg #[.int .i64 cap, .slice A4 (0 + 1) c4, .bool lag, .bool false]) ?_ rfl ⟨⟨_, _, rfl, ?_⟩, ext_set4 kk HX.out.1 _ _ _ _⟩
              have hl6 := run_loadVar_mid (P := Try.prog) _ X2 0 24 _ _ (set4_range (a := .int .i64 cap) (b := .slice A4 (0 + 1) c4) (c := .bool lag) (d := .bool false) v0 v1 v2 v3) Try.underlying24 rfl (by kernel_rfl)
              simp only [results, Try.results16]
              simp [Sem.run_bind, Sem.run_pure, hl6, asAddr]
              exact HT7.out.set4 hne7 _ _ _ _
            · exact AllReadyH.nil
          · exact AllReadyH.nil
        · exact AllReadyH.nil
      · exact AllReadyH.nil
    refine AllReadyH.cons rfl (fun K hK => ?_) ?_
    · rw [if_pos (by rfl)]
      refine wp_build1 46 (by rfl) x.cells (by go_simp) hx66 ?_
      have kW : Ext w2 (w2.drew.alloc (.cells x.cells.toArray 33)) := ((Ext.refl w2).drew).alloc _
      have hsrcW : Src (w2.drew.alloc (.cells x.cells.toArray 33)) 66 (some ⟨w2.drew.heap.size, 0, none⟩) 1 1 x.cells := src_atN (by rw [hx66]) (Note.one x) rfl
      have u1W := (BU.out.ext kW).c1
      refine hK.out _ _ (rangeAt_ext RN.out kW) (fun hHeld => ?_)
      clear hK K
      (try simp only [List.getElem_toArray, List.getElem_cons_zero, List.getElem_cons_succ, Act.put, List.setIfInBounds_toArray, List.set_cons_zero, List.set_cons_succ])
      refine wpAnyH_ready (rs := [1]) (by kernel_rfl) (by simp) ?_
      refine AllReadyH.cons rfl (fun K hK => ?_) ?_
      · go_simp
        refine hK.out _ _ hHeld (fun hHeld => ?_)
        clear hK K
        (try simp only [List.getElem_toArray, List.getElem_cons_zero, List.getElem_cons_succ, Act.put, List.setIfInBounds_toArray, List.set_cons_zero, List.set_cons_succ])
        refine wpAnyH_ready (rs := [2]) (by kernel_rfl) (by simp) ?_
        refine AllReadyH.cons rfl (fun K hK => ?_) ?_
        · refine step_app rowNotes (by rfl) (.const (Value.slice none 0 0)) (.tmp 44) (by rfl) w2.heap.size (.slice none 0 0) 0 [] (by go_simp) (World.ownsRow_nil _ _ _ _) A 0 c (flatT NS) (by go_simp) ((HB.out _ (kk.trans kW)).src) (by omega) (kW).size ?_
          intro q3 w3 hown3 hgrow3 hat3
          have k3 : Ext w2 w3 := (kW).grown hgrow3 (fun j e => by cases e)
          rw [Nat.zero_add, List.nil_append] at hown3
          refine hK.out _ _ (rangeAt_ext RN.out k3) (fun hHeld => ?_)
          clear hK K
          (try simp only [List.getElem_toArray, List.getElem_cons_zero, List.getElem_cons_succ, Act.put, List.setIfInBounds_toArray, List.set_cons_zero, List.set_cons_succ])
          have kV := k3
          have hownV := hown3
          have hsrcV := hsrcW.ext ((Ext.refl _).grown hgrow3 (fun j e => by cases e))
          refine wpAnyH_ready (rs := [5]) (by kernel_rfl) (by simp) ?_
          refine AllReadyH.cons rfl (fun K hK => ?_) ?_
          · refine step_app rowNotes (by rfl) (.tmp 45) (.tmp 47) (by rfl) w2.heap.size q3 0 (flatT NS) (by go_simp) hownV (some ⟨w2.drew.heap.size, 0, none⟩) 1 1 x.cells (by go_simp) hsrcV (by omega) kV.size ?_
            intro q4 w4 hown4 hgrow4 hat4
            rw [← flatT_snoc] at hown4
            have hq0 : q3.ownBlock ≠ some w.heap.size := own_off hownV (.inl ul)
            have hq1 : q3.ownBlock ≠ some X1 := own_off hownV (.inl nl)
            have hq2 : q3.ownBlock ≠ some X2 := own_off hownV (.inl vl)
            have b4 := (BU.out.ext kV).grown hgrow4 hq0
            have b5 := (BV.out.ext kV).grown hgrow4 hq2
            have k4 : Ext w w4 := (kk.trans kV).grown hgrow4 (fun j e => Nat.le_trans kk.size (own_from hownV j e))
            refine hK.out _ _ (grown_range hgrow4 (rangeAt_ext RN.out kV) hq1) (fun hHeld => ?_)
            clear hK K
            (try simp only [List.getElem_toArray, List.getElem_cons_zero, List.getElem_cons_succ, Act.put, List.setIfInBounds_toArray, List.set_cons_zero, List.set_cons_succ])
            have x1 := b4.c1
            have xf := b4.f
            have hn4 : q4.ownBlock ≠ some w.heap.size := by
              rcases hat4 with h | h
              · rw [h]; exact hq0
              · rw [h]; intro e5; have e6 := Option.some.inj e5; have := kV.size; omega
            obtain ⟨A4, c4, rfl⟩ := own_form' hown4
            have hx5 : Ext w (w4.setCell ⟨w.heap.size, 1, none⟩ (.slice A4 (0 + 1) c4)) := k4.setCell (p := ⟨w.heap.size, 1, none⟩) (Nat.le_refl _) _
            have o5 := own_setCell' (a := ⟨w.heap.size, 1, none⟩) hown4 hn4 (.slice A4 (0 + 1) c4)
            have b6 := b4.set1 A4 (0 + 1) c4
            have b7 := b5.other (p := ⟨w.heap.size, 1, none⟩) HX.out.2.2 (.slice A4 (0 + 1) c4)
            have HFIN := Lib.hid (And.intro hx5 (And.intro o5 (And.intro b6 b7)))
            clear hx5 o5 b6 b7 b4 b5 hown4 hgrow4 hat4
            refine wpAnyH_take (i := 6) (v := Value.pointer (some ⟨w.heap.size, 1, none⟩)) rfl (by kernel_rfl) (by kernel_rfl) (by kernel_rfl) (fun _ _ _ h => h) (Or.inl ⟨by rfl, fun _ hSw => by first | (go_simp; done) | (go_simp; with_reducible rfl)⟩) hHeld ?_
            (try simp only [List.getElem_toArray, List.getElem_cons_zero, List.getElem_cons_succ, Act.put, List.setIfInBounds_toArray, List.set_cons_zero, List.set_cons_succ])
            refine wpAnyH_ready (rs := [7]) (by kernel_rfl) (by simp) ?_
            refine AllReadyH.cons rfl (fun K hK => ?_) ?_
            · go_simp
              refine hK.out _ _ (range_setB hHeld (p := ⟨w.heap.size, 1, none⟩) HX.out.2.1 _) (fun hHeld => ?_)
              clear hK K
              (try simp only [List.getElem_toArray, List.getElem_cons_zero, List.getElem_cons_succ, Act.put, List.setIfInBounds_toArray, List.set_cons_zero, List.set_cons_succ])
              refine wpAnyH_done (by kernel_rfl) ?_ _
              refine NoPanic.normal ?_
              obtain ⟨hx5, o5, b6, b7⟩ := HFIN.out
              obtain ⟨A7, c7, e7, hT7, hf7⟩ := TL.own o5 (by omega) (by rw [List.length_append, HLN.out]; rfl) HOK.out
              obtain ⟨rfl, rfl⟩ : A4 = A7 ∧ c4 = c7 := by simpa using e7
              have hne7 : ∀ ad, A4 = some ad → ad.block ≠ X2 := fun ad e => by have := hf7 ad e; omega
              have HT7 := Lib.hid hT7
              clear HFIN o5 hT7 e7 hf7 u0 u1 u2 u3 uf v0 v1 v2 v3 vf x1 xf hHeld kV hownV hsrcV hq0 hq1 hq2 k4 hn4
              replace kk := hx5
              clear hx5
              generalize w4.setCell ⟨w.heap.size, 1, none⟩ (.slice A4 (0 + 1) c4) = w5 at *
              have u0 := b6.c0
              have u1 := b6.c1
              have u2 := b6.c2
              have u3 := b6.c3
              have uf := b6.f
              have ul' := lt_of_cell u0
              have v0 := b7.c0
              have v1 := b7.c1
              have v2 := b7.c2
              have v3 := b7.c3
              have vf := b7.f
              have vl' := lt_of_cell v0
              clear b6 b7
              go_wp2
              refine bodyPost_ret (v := .agg #[.int .i64 cap, .slice A4 (0 + 1) c4, .bool lag, .bool false]) ?_ rfl ⟨⟨_, _, rfl, ?_⟩, ext_set4 kk HX.out.1 _ _ _ _⟩
              have hl6 := run_loadVar_mid (P := Try.prog) _ X2 0 24 _ _ (set4_range (a := .int .i64 cap) (b := .slice A4 (0 + 1) c4) (c := .bool lag) (d := .bool false) v0 v1 v2 v3) Try.underlying24 rfl (by kernel_rfl)
              simp only [results, Try.results16]
              simp [Sem.run_bind, Sem.run_pure, hl6, asAddr]
              exact HT7.out.set4 hne7 _ _ _ _
            · exact AllReadyH.nil
          · exact AllReadyH.nil
        · exact AllReadyH.nil
      · exact AllReadyH.nil
    · exact AllReadyH.nil
  · have hc' : ¬ x.ver ≤ (Box.nt NS (n - 1)).ver := fun h => hc ⟨by omega, h⟩
    clear hm hc he
    obtain ⟨m, hm⟩ : ∃ m, n = m + 1 := ⟨n - 1, by omega⟩
    subst hm
    obtain ⟨ba, oa, rfl, hr, hyo⟩ := h.at' (show m < m + 1 by omega)
    have hlast : NS.getD m Note.zero = Box.nt NS (m + 1 - 1) := rfl
    rw [hlast] at hr hyo
    generalize Box.nt NS (m + 1 - 1) = y at *
    have hry := Lib.hid (fun W (k : Ext w W) => (by have := k.cell (hr 0 _ (Note.at0 y)); simpa using this : W.cell? ⟨ba, oa + m * 66, none⟩ = some (.int .i64 y.ver)))
    have g0 : decide ((0 : Int) < (m : Int) + 1) = true := decide_eq_true (by omega)
    have g0' : (0 : Int) < (m : Int) + 1 := by omega
    have hsub : ((m : Int) + 1) - 1 = (m : Int) := by omega
    have hmb : m ≤ 17592186043904 := by omega
    have hwr : IntKind.i64.wrap (((m : Int) + 1) - 1) = (m : Int) := by rw [hsub]; exact IntWalk.i64_in _ ⟨by omega, by omega⟩
    have gm : (m : Int) < (m : Int) + 1 := by omega
    clear hlast hr hyo
    have gv : ¬ x.ver ≤ y.ver := hc'
    have gv' : decide (x.ver ≤ y.ver) = false := by simpa using gv
    clear hc' h
    obtain ⟨X1, hX1⟩ : ∃ X1, X1 = w.heap.size + 1 := ⟨_, rfl⟩
    obtain ⟨X2, hX2⟩ : ∃ X2, X2 = w.heap.size + 1 + 1 := ⟨_, rfl⟩
    have HX : Hid (w.heap.size ≤ X2 ∧ X1 ≠ w.heap.size ∧ X2 ≠ w.heap.size) := by show _ ∧ _; omega
    go_enter Try.func16, Try.ntmps16
    go_wp2_with fail
    refine (HM.out _ ((by repeat (first | assumption | exact Ext.refl _ | refine Ext.alloc ?_ _ | refine Ext.drew ?_ | refine Ext.drewN ?_ _ | refine Ext.setCell ?_ (by first | (simp; done) | omega | (simp; omega)) _ | refine Ext.trans (by assumption) ?_)))).mono ?_
    rintro e w1 ⟨rfl, hx1⟩
    have kk : Ext w w1 := Ext.trans ((by repeat (first | assumption | exact Ext.refl _ | refine Ext.alloc ?_ _ | refine Ext.drew ?_ | refine Ext.drewN ?_ _ | refine Ext.setCell ?_ (by first | (simp; done) | omega | (simp; omega)) _ | refine Ext.trans (by assumption) ?_))) hx1
    have rN := rangeAt_ext (range_at (w := w.alloc (.cells #[.int .i64 cap, .slice (some ⟨ba, oa, none⟩) (m + 1) c, .bool lag, .bool false] 24)) (B := w.heap.size + 1) x.cells 33 (by simp)) (((Ext.refl _).alloc (.cells #[.int .i64 0, .slice none 0 0, .bool false, .bool false] 24)).trans hx1)
    have d0 := rN 0 _ (Note.at0 x)
    simp only [Nat.add_zero] at d0
    obtain ⟨u0, u1, u2, u3, uf⟩ := (hx1).box4 (B := w.heap.size) (a := .int .i64 cap) (b := .slice (some ⟨ba, oa, none⟩) (m + 1) c) (c := .bool lag) (d := .bool false) (by simp (maxDischargeDepth := 7) [go_sem]) (by simp (maxDischargeDepth := 7) [go_sem]) (by simp (maxDischargeDepth := 7) [go_sem]) (by simp (maxDischargeDepth := 7) [go_sem]) (fun o => by simp (maxDischargeDepth := 7) [go_sem])
    have ul := lt_of_cell u0
    obtain ⟨v0, v1, v2, v3, vf⟩ := (hx1).box4 (B := w.heap.size + 1 + 1) (a := .int .i64 0) (b := .slice none 0 0) (c := .bool false) (d := .bool false) (by simp (maxDischargeDepth := 7) [go_sem]) (by simp (maxDischargeDepth := 7) [go_sem]) (by simp (maxDischargeDepth := 7) [go_sem]) (by simp (maxDischargeDepth := 7) [go_sem]) (fun o => by simp (maxDischargeDepth := 7) [go_sem])
    have vl := lt_of_cell v0
    rw [← hX2] at v0 v1 v2 v3 vf vl ⊢
    rw [← hX1] at rN d0 ⊢
    clear hX1 hX2 hx1
    have dy := hry.out _ kk
    go_wp2
    refine wp_region_quiet_lit (by kernel_rfl) (by kernel_rfl) ?_
    repeat (first | go_big_quiet_skip | (go_big_quiet_want; first | ((fail); (try simp only [Act.put, List.setIfInBounds_toArray, List.set_cons_zero, List.set_cons_succ]); go_big_quiet_on) | (go_big_quiet_op; first | go_big_quiet_on | go_big_quiet_call (fail))))
    refine wpQuiet_nil ?_
    intro _ hw'
    obtain ⟨nq', hw''⟩ := hw'
    subst hw''
    have kd : Ext w1 (w1.drewN nq') := (Ext.refl _).drewN _
    replace uf := (kd).free u0 uf
    replace u0 := (kd).cell u0
    replace u1 := (kd).cell u1
    replace u2 := (kd).cell u2
    replace u3 := (kd).cell u3
    replace ul := lt_of_cell u0
    replace vf := (kd).free v0 vf
    replace v0 := (kd).cell v0
    replace v1 := (kd).cell v1
    replace v2 := (kd).cell v2
    replace v3 := (kd).cell v3
    replace vl := lt_of_cell v0
    replace rN := rangeAt_ext rN kd
    replace d0 := kd.cell d0
    replace kk := kk.trans kd
    clear kd
    generalize w1.drewN nq' = w2 at *
    go_upto_region 7 with fail
    have RN := Lib.hid rN
    have BU := Lib.hid (Box4.mk u0 u1 u2 u3 uf)
    have BV := Lib.hid (Box4.mk v0 v1 v2 v3 vf)
    have nl : X1 < w2.heap.size := lt_of_cell d0
    refine wp_region_noPanic ?_
    refine wp_region_held_drew (S := fun w' => w'.rangeAt X1 0 x.cells) (by kernel_rfl) (rangeAt_ext rN ((by repeat (first | assumption | exact Ext.refl _ | refine Ext.alloc ?_ _ | refine Ext.drew ?_ | refine Ext.drewN ?_ _ | refine Ext.setCell ?_ (by first | (simp; done) | omega | (simp; omega)) _ | refine Ext.trans (by assumption) ?_)))) (fun hHeld => ?_)
    change wpAnyH _ _ _ _ _ 8 (Array.replicate 8 false) _ _
    clear rN d0
    refine wpAnyH_take (i := 0) (v := Value.pointer (some ⟨w.heap.size, 1, none⟩)) rfl (by kernel_rfl) (by kernel_rfl) (by kernel_rfl) (fun _ _ _ h => h) (Or.inl ⟨by rfl, fun _ hSw => by first | (go_simp; done) | (go_simp; with_reducible rfl)⟩) hHeld ?_
    (try simp only [List.getElem_toArray, List.getElem_cons_zero, List.getElem_cons_succ, Act.put, List.setIfInBounds_toArray, List.set_cons_zero, List.set_cons_succ])
    refine wpAnyH_take (i := 3) (v := .agg (x.cells).toArray) rfl (by kernel_rfl) (by kernel_rfl) (by kernel_rfl) (fun _ _ _ h => h) (yieldsIf_load_mid (by rfl) 33 (.tmp 3) (by rfl) X1 0 (by go_simp) (x.cells) _ (fun w hw => hw) Try.underlying33 (by rfl) hi66) hHeld ?_
    (try simp only [List.getElem_toArray, List.getElem_cons_zero, List.getElem_cons_succ, Act.put, List.setIfInBounds_toArray, List.set_cons_zero, List.set_cons_succ])
    refine wpAnyH_ready (rs := [1, 4]) (by kernel_rfl) (by simp) ?_
    refine AllReadyH.cons rfl (fun K hK => ?_) ?_
    · go_simp
      refine hK.out _ _ hHeld (fun hHeld => ?_)
      clear hK K
      (try simp only [List.getElem_toArray, List.getElem_cons_zero, List.getElem_cons_succ, Act.put, List.setIfInBounds_toArray, List.set_cons_zero, List.set_cons_succ])
      refine wpAnyH_ready (rs := [2, 4]) (by kernel_rfl) (by simp) ?_
      refine AllReadyH.cons rfl (fun K hK => ?_) ?_
      · refine step_app rowNotes (by rfl) (.const (Value.slice none 0 0)) (.tmp 44) (by rfl) w2.heap.size (.slice none 0 0) 0 [] (by go_simp) (World.ownsRow_nil _ _ _ _) (some ⟨ba, oa, none⟩) (m + 1) c (flatT NS) (by go_simp) ((HB.out _ (kk.trans ((Ext.refl w2).drew))).src) (by omega) (((Ext.refl w2).drew)).size ?_
        intro q3 w3 hown3 hgrow3 hat3
        have k3 : Ext w2 w3 := (((Ext.refl w2).drew)).grown hgrow3 (fun j e => by cases e)
        rw [Nat.zero_add, List.nil_append] at hown3
        refine hK.out _ _ (rangeAt_ext RN.out k3) (fun hHeld => ?_)
        clear hK K
        (try simp only [List.getElem_toArray, List.getElem_cons_zero, List.getElem_cons_succ, Act.put, List.setIfInBounds_toArray, List.set_cons_zero, List.set_cons_succ])
        refine wpAnyH_ready (rs := [4]) (by kernel_rfl) (by simp) ?_
        refine AllReadyH.cons rfl (fun K hK => ?_) ?_
        · rw [if_pos (by rfl)]
          refine wp_build1 46 (by rfl) x.cells (by go_simp) hx66 ?_
          have kV : Ext w2 (w3.alloc (.cells x.cells.toArray 33)) := k3.alloc _
          have hownV := own_ext hown3 ((Ext.refl w3).alloc (.cells x.cells.toArray 33))
          have hsrcV : Src (w3.alloc (.cells x.cells.toArray 33)) 66 (some ⟨w3.heap.size, 0, none⟩) 1 1 x.cells := src_atN (by rw [hx66]) (Note.one x) rfl
          refine hK.out _ _ (rangeAt_ext RN.out kV) (fun hHeld => ?_)
          clear hK K
          (try simp only [List.getElem_toArray, List.getElem_cons_zero, List.getElem_cons_succ, Act.put, List.setIfInBounds_toArray, List.set_cons_zero, List.set_cons_succ])
          refine wpAnyH_ready (rs := [5]) (by kernel_rfl) (by simp) ?_
          refine AllReadyH.cons rfl (fun K hK => ?_) ?_
          · refine step_app rowNotes (by rfl) (.tmp 45) (.tmp 47) (by rfl) w2.heap.size q3 (m + 1) (flatT NS) (by go_simp) hownV (some ⟨w3.heap.size, 0, none⟩) 1 1 x.cells (by go_simp) hsrcV (by omega) kV.size ?_
            intro q4 w4 hown4 hgrow4 hat4
            rw [← flatT_snoc] at hown4
            have hq0 : q3.ownBlock ≠ some w.heap.size := own_off hownV (.inl ul)
            have hq1 : q3.ownBlock ≠ some X1 := own_off hownV (.inl nl)
            have hq2 : q3.ownBlock ≠ some X2 := own_off hownV (.inl vl)
            have b4 := (BU.out.ext kV).grown hgrow4 hq0
            have b5 := (BV.out.ext kV).grown hgrow4 hq2
            have k4 : Ext w w4 := (kk.trans kV).grown hgrow4 (fun j e => Nat.le_trans kk.size (own_from hownV j e))
            refine hK.out _ _ (grown_range hgrow4 (rangeAt_ext RN.out kV) hq1) (fun hHeld => ?_)
            clear hK K
            (try simp only [List.getElem_toArray, List.getElem_cons_zero, List.getElem_cons_succ, Act.put, List.setIfInBounds_toArray, List.set_cons_zero, List.set_cons_succ])
            have x1 := b4.c1
            have xf := b4.f
            have hn4 : q4.ownBlock ≠ some w.heap.size := by
              rcases hat4 with h | h
              · rw [h]; exact hq0
              · rw [h]; intro e5; have e6 := Option.some.inj e5; have := kV.size; omega
            obtain ⟨A4, c4, rfl⟩ := own_form' hown4
            have hx5 : Ext w (w4.setCell ⟨w.heap.size, 1, none⟩ (.slice A4 ((m + 1) + 1) c4)) := k4.setCell (p := ⟨w.heap.size, 1, none⟩) (Nat.le_refl _) _
            have o5 := own_setCell' (a := ⟨w.heap.size, 1, none⟩) hown4 hn4 (.slice A4 ((m + 1) + 1) c4)
            have b6 := b4.set1 A4 ((m + 1) + 1) c4
            have b7 := b5.other (p := ⟨w.heap.size, 1, none⟩) HX.out.2.2 (.slice A4 ((m + 1) + 1) c4)
            have HFIN := Lib.hid (And.intro hx5 (And.intro o5 (And.intro b6 b7)))
            clear hx5 o5 b6 b7 b4 b5 hown4 hgrow4 hat4
            refine wpAnyH_take (i := 6) (v := Value.pointer (some ⟨w.heap.size, 1, none⟩)) rfl (by kernel_rfl) (by kernel_rfl) (by kernel_rfl) (fun _ _ _ h => h) (Or.inl ⟨by rfl, fun _ hSw => by first | (go_simp; done) | (go_simp; with_reducible rfl)⟩) hHeld ?_
            (try simp only [List.getElem_toArray, List.getElem_cons_zero, List.getElem_cons_succ, Act.put, List.setIfInBounds_toArray, List.set_cons_zero, List.set_cons_succ])
            refine wpAnyH_ready (rs := [7]) (by kernel_rfl) (by simp) ?_
            refine AllReadyH.cons rfl (fun K hK => ?_) ?_
            · go_simp
              refine hK.out _ _ (range_setB hHeld (p := ⟨w.heap.size, 1, none⟩) HX.out.2.1 _) (fun hHeld => ?_)
              clear hK K
              (try simp only [List.getElem_toArray, List.getElem_cons_zero, List.getElem_cons_succ, Act.put, List.setIfInBounds_toArray, List.set_cons_zero, List.set_cons_succ])
              refine wpAnyH_done (by kernel_rfl) ?_ _
              refine NoPanic.normal ?_
              obtain ⟨hx5, o5, b6, b7⟩ := HFIN.out
              obtain ⟨A7, c7, e7, hT7, hf7⟩ := TL.own o5 (by omega) (by rw [List.length_append, HLN.out]; rfl) HOK.out
              obtain ⟨rfl, rfl⟩ : A4 = A7 ∧ c4 = c7 := by simpa using e7
              have hne7 : ∀ ad, A4 = some ad → ad.block ≠ X2 := fun ad e => by have := hf7 ad e; omega
              have HT7 := Lib.hid hT7
              clear HFIN o5 hT7 e7 hf7 u0 u1 u2 u3 uf v0 v1 v2 v3 vf x1 xf hHeld kV hownV hsrcV hq0 hq1 hq2 k4 hn4
              replace kk := hx5
              clear hx5
              generalize w4.setCell ⟨w.heap.size, 1, none⟩ (.slice A4 ((m + 1) + 1) c4) = w5 at *
              have u0 := b6.c0
              have u1 := b6.c1
              have u2 := b6.c2
              have u3 := b6.c3
              have uf := b6.f
              have ul' := lt_of_cell u0
              have v0 := b7.c0
              have v1 := b7.c1
              have v2 := b7.c2
              have v3 := b7.c3
              have vf := b7.f
              have vl' := lt_of_cell v0
              clear b6 b7
              go_wp2
              refine bodyPost_ret (v := .agg #[.int .i64 cap, .slice A4 ((m + 1) + 1) c4, .bool lag, .bool false]) ?_ rfl ⟨⟨_, _, rfl, ?_⟩, ext_set4 kk HX.out.1 _ _ _ _⟩
              have hl6 := run_loadVar_mid (P := Try.prog) _ X2 0 24 _ _ (set4_range (a := .int .i64 cap) (b := .slice A4 ((m + 1) + 1) c4) (c := .bool lag) (d := .bool false) v0 v1 v2 v3) Try.underlying24 rfl (by kernel_rfl)
              simp only [results, Try.results16]
              simp [Sem.run_bind, Sem.run_pure, hl6, asAddr]
              exact HT7.out.set4 hne7 _ _ _ _
            · exact AllReadyH.nil
          · exact AllReadyH.nil
        · exact AllReadyH.nil
      refine AllReadyH.cons rfl (fun K hK => ?_) ?_
      · rw [if_pos (by rfl)]
        refine wp_build1 46 (by rfl) x.cells (by go_simp) hx66 ?_
        have kW : Ext w2 (w2.drew.alloc (.cells x.cells.toArray 33)) := ((Ext.refl w2).drew).alloc _
        have hsrcW : Src (w2.drew.alloc (.cells x.cells.toArray 33)) 66 (some ⟨w2.drew.heap.size, 0, none⟩) 1 1 x.cells := src_atN (by rw [hx66]) (Note.one x) rfl
        refine hK.out _ _ (rangeAt_ext RN.out kW) (fun hHeld => ?_)
        clear hK K
        (try simp only [List.getElem_toArray, List.getElem_cons_zero, List.getElem_cons_succ, Act.put, List.setIfInBounds_toArray, List.set_cons_zero, List.set_cons_succ])
        refine wpAnyH_ready (rs := [2]) (by kernel_rfl) (by simp) ?_
        refine AllReadyH.cons rfl (fun K hK => ?_) ?_
        · refine step_app rowNotes (by rfl) (.const (Value.slice none 0 0)) (.tmp 44) (by rfl) w2.heap.size (.slice none 0 0) 0 [] (by go_simp) (World.ownsRow_nil _ _ _ _) (some ⟨ba, oa, none⟩) (m + 1) c (flatT NS) (by go_simp) ((HB.out _ (kk.trans kW)).src) (by omega) (kW).size ?_
          intro q3 w3 hown3 hgrow3 hat3
          have k3 : Ext w2 w3 := (kW).grown hgrow3 (fun j e => by cases e)
          rw [Nat.zero_add, List.nil_append] at hown3
          refine hK.out _ _ (rangeAt_ext RN.out k3) (fun hHeld => ?_)
          clear hK K
          (try simp only [List.getElem_toArray, List.getElem_cons_zero, List.getElem_cons_succ, Act.put, List.setIfInBounds_toArray, List.set_cons_zero, List.set_cons_succ])
          have kV := k3
          have hownV := hown3
          have hsrcV := hsrcW.ext ((Ext.refl _).grown hgrow3 (fun j e => by cases e))
          refine wpAnyH_ready (rs := [5]) (by kernel_rfl) (by simp) ?_
          refine AllReadyH.cons rfl (fun K hK => ?_) ?_
          · refine step_app rowNotes (by rfl) (.tmp 45) (.tmp 47) (by rfl) w2.heap.size q3 (m + 1) (flatT NS) (by go_simp) hownV (some ⟨w2.drew.heap.size, 0, none⟩) 1 1 x.cells (by go_simp) hsrcV (by omega) kV.size ?_
            intro q4 w4 hown4 hgrow4 hat4
            rw [← flatT_snoc] at hown4
            have hq0 : q3.ownBlock ≠ some w.heap.size := own_off hownV (.inl ul)
            have hq1 : q3.ownBlock ≠ some X1 := own_off hownV (.inl nl)
            have hq2 : q3.ownBlock ≠ some X2 := own_off hownV (.inl vl)
            have b4 := (BU.out.ext kV).grown hgrow4 hq0
            have b5 := (BV.out.ext kV).grown hgrow4 hq2
            have k4 : Ext w w4 := (kk.trans kV).grown hgrow4 (fun j e => Nat.le_trans kk.size (own_from hownV j e))
            refine hK.out _ _ (grown_range hgrow4 (rangeAt_ext RN.out kV) hq1) (fun hHeld => ?_)
            clear hK K
            (try simp only [List.getElem_toArray, List.getElem_cons_zero, List.getElem_cons_succ, Act.put, List.setIfInBounds_toArray, List.set_cons_zero, List.set_cons_succ])
            have x1 := b4.c1
            have xf := b4.f
            have hn4 : q4.ownBlock ≠ some w.heap.size := by
              rcases hat4 with h | h
              · rw [h]; exact hq0
              · rw [h]; intro e5; have e6 := Option.some.inj e5; have := kV.size; omega
            obtain ⟨A4, c4, rfl⟩ := own_form' hown4
            have hx5 : Ext w (w4.setCell ⟨w.heap.size, 1, none⟩ (.slice A4 ((m + 1) + 1) c4)) := k4.setCell (p := ⟨w.heap.size, 1, none⟩) (Nat.le_refl _) _
            have o5 := own_setCell' (a := ⟨w.heap.size, 1, none⟩) hown4 hn4 (.slice A4 ((m + 1) + 1) c4)
            have b6 := b4.set1 A4 ((m + 1) + 1) c4
            have b7 := b5.other (p := ⟨w.heap.size, 1, none⟩) HX.out.2.2 (.slice A4 ((m + 1) + 1) c4)
            have HFIN := Lib.hid (And.intro hx5 (And.intro o5 (And.intro b6 b7)))
            clear hx5 o5 b6 b7 b4 b5 hown4 hgrow4 hat4
            refine wpAnyH_take (i := 6) (v := Value.pointer (some ⟨w.heap.size, 1, none⟩)) rfl (by kernel_rfl) (by kernel_rfl) (by kernel_rfl) (fun _ _ _ h => h) (Or.inl ⟨by rfl, fun _ hSw => by first | (go_simp; done) | (go_simp; with_reducible rfl)⟩) hHeld ?_
            (try simp only [List.getElem_toArray, List.getElem_cons_zero, List.getElem_cons_succ, Act.put, List.setIfInBounds_toArray, List.set_cons_zero, List.set_cons_succ])
            refine wpAnyH_ready (rs := [7]) (by kernel_rfl) (by simp) ?_
            refine AllReadyH.cons rfl (fun K hK => ?_) ?_
            · go_simp
              refine hK.out _ _ (range_setB hHeld (p := ⟨w.heap.size, 1, none⟩) HX.out.2.1 _) (fun hHeld => ?_)
              clear hK K
              (try simp only [List.getElem_toArray, List.getElem_cons_zero, List.getElem_cons_succ, Act.put, List.setIfInBounds_toArray, List.set_cons_zero, List.set_cons_succ])
              refine wpAnyH_done (by kernel_rfl) ?_ _
              refine NoPanic.normal ?_
              obtain ⟨hx5, o5, b6, b7⟩ := HFIN.out
              obtain ⟨A7, c7, e7, hT7, hf7⟩ := TL.own o5 (by omega) (by rw [List.length_append, HLN.out]; rfl) HOK.out
              obtain ⟨rfl, rfl⟩ : A4 = A7 ∧ c4 = c7 := by simpa using e7
              have hne7 : ∀ ad, A4 = some ad → ad.block ≠ X2 := fun ad e => by have := hf7 ad e; omega
              have HT7 := Lib.hid hT7
              clear HFIN o5 hT7 e7 hf7 u0 u1 u2 u3 uf v0 v1 v2 v3 vf x1 xf hHeld kV hownV hsrcV hq0 hq1 hq2 k4 hn4
              replace kk := hx5
              clear hx5
              generalize w4.setCell ⟨w.heap.size, 1, none⟩ (.slice A4 ((m + 1) + 1) c4) = w5 at *
              have u0 := b6.c0
              have u1 := b6.c1
              have u2 := b6.c2
              have u3 := b6.c3
              have uf := b6.f
              have ul' := lt_of_cell u0
              have v0 := b7.c0
              have v1 := b7.c1
              have v2 := b7.c2
              have v3 := b7.c3
              have vf := b7.f
              have vl' := lt_of_cell v0
              clear b6 b7
              go_wp2
              refine bodyPost_ret (v := .agg #[.int .i64 cap, .slice A4 ((m + 1) + 1) c4, .bool lag, .bool false]) ?_ rfl ⟨⟨_, _, rfl, ?_⟩, ext_set4 kk HX.out.1 _ _ _ _⟩
              have hl6 := run_loadVar_mid (P := Try.prog) _ X2 0 24 _ _ (set4_range (a := .int .i64 cap) (b := .slice A4 ((m + 1) + 1) c4) (c := .bool lag) (d := .bool false) v0 v1 v2 v3) Try.underlying24 rfl (by kernel_rfl)
              simp only [results, Try.results16]
              simp [Sem.run_bind, Sem.run_pure, hl6, asAddr]
              exact HT7.out.set4 hne7 _ _ _ _
            · exact AllReadyH.nil
          · exact AllReadyH.nil
        · exact AllReadyH.nil
      · exact AllReadyH.nil
    refine AllReadyH.cons rfl (fun K hK => ?_) ?_
    · rw [if_pos (by rfl)]
      refine wp_build1 46 (by rfl) x.cells (by go_simp) hx66 ?_
      have kW : Ext w2 (w2.drew.alloc (.cells x.cells.toArray 33)) := ((Ext.refl w2).drew).alloc _
      have hsrcW : Src (w2.drew.alloc (.cells x.cells.toArray 33)) 66 (some ⟨w2.drew.heap.size, 0, none⟩) 1 1 x.cells := src_atN (by rw [hx66]) (Note.one x) rfl
      have u1W := (BU.out.ext kW).c1
      refine hK.out _ _ (rangeAt_ext RN.out kW) (fun hHeld => ?_)
      clear hK K
      (try simp only [List.getElem_toArray, List.getElem_cons_zero, List.getElem_cons_succ, Act.put, List.setIfInBounds_toArray, List.set_cons_zero, List.set_cons_succ])
      refine wpAnyH_ready (rs := [1]) (by kernel_rfl) (by simp) ?_
      refine AllReadyH.cons rfl (fun K hK => ?_) ?_
      · go_simp
        refine hK.out _ _ hHeld (fun hHeld => ?_)
        clear hK K
        (try simp only [List.getElem_toArray, List.getElem_cons_zero, List.getElem_cons_succ, Act.put, List.setIfInBounds_toArray, List.set_cons_zero, List.set_cons_succ])
        refine wpAnyH_ready (rs := [2]) (by kernel_rfl) (by simp) ?_
        refine AllReadyH.cons rfl (fun K hK => ?_) ?_
        · refine step_app rowNotes (by rfl) (.const (Value.slice none 0 0)) (.tmp 44) (by rfl) w2.heap.size (.slice none 0 0) 0 [] (by go_simp) (World.ownsRow_nil _ _ _ _) (some ⟨ba, oa, none⟩) (m + 1) c (flatT NS) (by go_simp) ((HB.out _ (kk.trans kW)).src) (by omega) (kW).size ?_
          intro q3 w3 hown3 hgrow3 hat3
          have k3 : Ext w2 w3 := (kW).grown hgrow3 (fun j e => by cases e)
          rw [Nat.zero_add, List.nil_append] at hown3
          refine hK.out _ _ (rangeAt_ext RN.out k3) (fun hHeld => ?_)
          clear hK K
          (try simp only [List.getElem_toArray, List.getElem_cons_zero, List.getElem_cons_succ, Act.put, List.setIfInBounds_toArray, List.set_cons_zero, List.set_cons_succ])
          have kV := k3
          have hownV := hown3
          have hsrcV := hsrcW.ext ((Ext.refl _).grown hgrow3 (fun j e => by cases e))
          refine wpAnyH_ready (rs := [5]) (by kernel_rfl) (by simp) ?_
          refine AllReadyH.cons rfl (fun K hK => ?_) ?_
          · refine step_app rowNotes (by rfl) (.tmp 45) (.tmp 47) (by rfl) w2.heap.size q3 (m + 1) (flatT NS) (by go_simp) hownV (some ⟨w2.drew.heap.size, 0, none⟩) 1 1 x.cells (by go_simp) hsrcV (by omega) kV.size ?_
            intro q4 w4 hown4 hgrow4 hat4
            rw [← flatT_snoc] at hown4
            have hq0 : q3.ownBlock ≠ some w.heap.size := own_off hownV (.inl ul)
            have hq1 : q3.ownBlock ≠ some X1 := own_off hownV (.inl nl)
            have hq2 : q3.ownBlock ≠ some X2 := own_off hownV (.inl vl)
            have b4 := (BU.out.ext kV).grown hgrow4 hq0
            have b5 := (BV.out.ext kV).grown hgrow4 hq2
            have k4 : Ext w w4 := (kk.trans kV).grown hgrow4 (fun j e => Nat.le_trans kk.size (own_from hownV j e))
            refine hK.out _ _ (grown_range hgrow4 (rangeAt_ext RN.out kV) hq1) (fun hHeld => ?_)
            clear hK K
            (try simp only [List.getElem_toArray, List.getElem_cons_zero, List.getElem_cons_succ, Act.put, List.setIfInBounds_toArray, List.set_cons_zero, List.set_cons_succ])
            have x1 := b4.c1
            have xf := b4.f
            have hn4 : q4.ownBlock ≠ some w.heap.size := by
              rcases hat4 with h | h
              · rw [h]; exact hq0
              · rw [h]; intro e5; have e6 := Option.some.inj e5; have := kV.size; omega
            obtain ⟨A4, c4, rfl⟩ := own_form' hown4
            have hx5 : Ext w (w4.setCell ⟨w.heap.size, 1, none⟩ (.slice A4 ((m + 1) + 1) c4)) := k4.setCell (p := ⟨w.heap.size, 1, none⟩) (Nat.le_refl _) _
            have o5 := own_setCell' (a := ⟨w.heap.size, 1, none⟩) hown4 hn4 (.slice A4 ((m + 1) + 1) c4)
            have b6 := b4.set1 A4 ((m + 1) + 1) c4
            have b7 := b5.other (p := ⟨w.heap.size, 1, none⟩) HX.out.2.2 (.slice A4 ((m + 1) + 1) c4)
            have HFIN := Lib.hid (And.intro hx5 (And.intro o5 (And.intro b6 b7)))
            clear hx5 o5 b6 b7 b4 b5 hown4 hgrow4 hat4
            refine wpAnyH_take (i := 6) (v := Value.pointer (some ⟨w.heap.size, 1, none⟩)) rfl (by kernel_rfl) (by kernel_rfl) (by kernel_rfl) (fun _ _ _ h => h) (Or.inl ⟨by rfl, fun _ hSw => by first | (go_simp; done) | (go_simp; with_reducible rfl)⟩) hHeld ?_
            (try simp only [List.getElem_toArray, List.getElem_cons_zero, List.getElem_cons_succ, Act.put, List.setIfInBounds_toArray, List.set_cons_zero, List.set_cons_succ])
            refine wpAnyH_ready (rs := [7]) (by kernel_rfl) (by simp) ?_
            refine AllReadyH.cons rfl (fun K hK => ?_) ?_
            · go_simp
              refine hK.out _ _ (range_setB hHeld (p := ⟨w.heap.size, 1, none⟩) HX.out.2.1 _) (fun hHeld => ?_)
              clear hK K
              (try simp only [List.getElem_toArray, List.getElem_cons_zero, List.getElem_cons_succ, Act.put, List.setIfInBounds_toArray, List.set_cons_zero, List.set_cons_succ])
              refine wpAnyH_done (by kernel_rfl) ?_ _
              refine NoPanic.normal ?_
              obtain ⟨hx5, o5, b6, b7⟩ := HFIN.out
              obtain ⟨A7, c7, e7, hT7, hf7⟩ := TL.own o5 (by omega) (by rw [List.length_append, HLN.out]; rfl) HOK.out
              obtain ⟨rfl, rfl⟩ : A4 = A7 ∧ c4 = c7 := by simpa using e7
              have hne7 : ∀ ad, A4 = some ad → ad.block ≠ X2 := fun ad e => by have := hf7 ad e; omega
              have HT7 := Lib.hid hT7
              clear HFIN o5 hT7 e7 hf7 u0 u1 u2 u3 uf v0 v1 v2 v3 vf x1 xf hHeld kV hownV hsrcV hq0 hq1 hq2 k4 hn4
              replace kk := hx5
              clear hx5
              generalize w4.setCell ⟨w.heap.size, 1, none⟩ (.slice A4 ((m + 1) + 1) c4) = w5 at *
              have u0 := b6.c0
              have u1 := b6.c1
              have u2 := b6.c2
              have u3 := b6.c3
              have uf := b6.f
              have ul' := lt_of_cell u0
              have v0 := b7.c0
              have v1 := b7.c1
              have v2 := b7.c2
              have v3 := b7.c3
              have vf := b7.f
              have vl' := lt_of_cell v0
              clear b6 b7
              go_wp2
              refine bodyPost_ret (v := .agg #[.int .i64 cap, .slice A4 ((m + 1) + 1) c4, .bool lag, .bool false]) ?_ rfl ⟨⟨_, _, rfl, ?_⟩, ext_set4 kk HX.out.1 _ _ _ _⟩
              have hl6 := run_loadVar_mid (P := Try.prog) _ X2 0 24 _ _ (set4_range (a := .int .i64 cap) (b := .slice A4 ((m + 1) + 1) c4) (c := .bool lag) (d := .bool false) v0 v1 v2 v3) Try.underlying24 rfl (by kernel_rfl)
              simp only [results, Try.results16]
              simp [Sem.run_bind, Sem.run_pure, hl6, asAddr]
              exact HT7.out.set4 hne7 _ _ _ _
            · exact AllReadyH.nil
          · exact AllReadyH.nil
        · exact AllReadyH.nil
      · exact AllReadyH.nil
    · exact AllReadyH.nil
end Go.Proofs.Ytfngnajcmdaphaa
