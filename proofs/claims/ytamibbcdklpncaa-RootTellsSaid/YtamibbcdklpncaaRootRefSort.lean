/- The document's Sort. -/
import Derived.Test.YtamibbcdklpncaaRootIns
import Derived.Test.YtamibbcdklpncaaQuietX
import Derived.Test.YtamibbcdklpncaaRootArms
namespace Go.Proofs.Ytamibbcdklpncaa
open Go.RowKit Go.WideShapes Go.ChangeShapes Go.Joins Go.Deep Go.Sort
set_option linter.unusedVariables false
set_option linter.unusedSimpArgs false




theorem step_buildR {ops : Array Oper} {o : Oper} {a : Act} {w : World} {K : Act → World → Prop} {Q : Exit → Act → World → Prop} {E : Prop} (hgd : o.guard = none) (y : Nat) (ho : o.op = .buildSlice 24 1 #[(0, .tmp y)]) (cs : List Value) (hy : a.eval (.tmp y) = .agg cs.toArray) (hl : cs.length = 32) (B : Nat) (hB : B = w.heap.size)
    (h : K (a.put o.dst (.slice (some ⟨B, 0, none⟩) 1 1)) (w.alloc (.cells cs.toArray 23))) :
    if Region.wanted o (yielded ops a.tmps) = true then Oper.wp Try.prog o a w K Q else E := by
  have hw : Region.wanted o (yielded ops a.tmps) = true := by simp [Region.wanted, hgd]
  rw [if_pos hw]
  exact wp_buildR y ho cs hy hl (hB ▸ h)
theorem RL.dropIf {w : World} {b n c : Nat} {S : List (List Int)} (h : RL w (some ⟨b, 0, none⟩) n c S) {d : Nat} (hd : d ≤ n) : RL w (if c = d then some ⟨b, 0, none⟩ else some ⟨b, d * 32, none⟩) (n - d) (c - d) (S.drop d) := by
  have h1 := h.drop hd
  rw [Nat.zero_add] at h1
  by_cases e : c = d
  · rw [if_pos e]
    have hc := h.row.cap
    have hn : n - d = 0 := by omega
    refine ⟨⟨h1.row.len, h1.row.cap, h1.row.room, h1.row.wide, (fun e => by cases e), fun h0 => by omega⟩, h1.ok, h1.bytes⟩
  · rw [if_neg e]
    exact h1
structure SortR (w W : World) (v : Value) (S : List (List Int)) : Prop where
  ext : Ext w W
  own : W.ownsRow w.heap.size 23 32 v S.length (S.map rootC).flatten





set_option maxRecDepth 8000 in
set_option maxHeartbeats 2000000 in
theorem rsort_any (A : Option Addr) (n c : Nat) (R : List (List Int)) (w : World) (h : RL w A n c R) (hn : n ≤ 1000) :
    Calls Try.prog 15 #[.slice A n c] w fun e w' => (∃ A' n' c', e = .returned (.slice A' n' c') ∧ RL w' A' n' c' (Root.refV R)) ∧ Ext w w' := by
  have hlen := h.len
  have hroom := h.row.room
  have HV := Lib.hid (fun W (k : Ext w W) => h.ext k)
  have HOK := Lib.hid h.ok
  clear h
  go_enter Try.func15, Try.ntmps15
  go_wp2
  have R0 : SortR w w (.slice none 0 0) (Root.refV (R.take 0)) := ⟨Ext.refl _, own_new _ _ _ _⟩
  go_loopw [3, 4, 5, 6] (fun v i _ _ wr => ∃ (k : Nat) (Ao : Option Addr) (m d : Nat), k ≤ n ∧ i = .int .i64 k ∧ v = .slice Ao m d ∧ m = (Root.refV (R.take k)).length ∧ SortR w wr (.slice Ao m d) (Root.refV (R.take k))) (fun _ i _ _ _ => n - (intOf i).toNat)
  case atStart => exact ⟨0, none, 0, 0, Nat.zero_le _, rfl, rfl, rfl, R0⟩
  case round =>
    obtain ⟨k, Ao, m, d, hk, rfl, rfl, hm, G⟩ := hrel
    clear R0
    by_cases hlt : k < n
    · obtain ⟨w1, rfl⟩ : ∃ w1, w1 = wr := ⟨_, rfl⟩
      obtain ⟨b, off, rfl, hr0, hokx⟩ := (HV.out w (Ext.refl _)).at' hlt
      have hrx := rangeAt_ext hr0 G.ext
      have hrk := Lib.hid (take_ref (R := R) (k := k) (by omega))
      have hSl := Root.ref_len (R.take k)
      rw [List.length_take] at hSl
      have hSok : Hid (∀ r ∈ Root.refV (R.take k), RootOk r) := Lib.hid (fun r hr => HOK.out r (List.mem_of_mem_take (Root.ref_mem.1 hr)))
      generalize R.getD k zeroR = x at *
      generalize Root.refV (R.take k) = S at *
      have hi32 : (Try.prog.info? 23).map (·.size) = some (rootC x).length := by rw [rootC_len hokx]; kernel_rfl
      have g1 : (k : Int) < n := by omega
      have hown := G.own
      rw [← hm] at hown
      have hRS := Lib.hid (own_RL hown (by omega) hm.symm hSok.out)
      have HO := Lib.hid hown
      have HX := Lib.hid G.ext
      have HM := Lib.hid hm
      have HR := Lib.hid hrx
      have HR0 := Lib.hid hr0
      have hm1 : m ≤ 1000 := by omega
      clear G hown hm hSl hlen hr0
      go_wp2
      go_loopw [5] (fun u wi => ∃ j : Nat, j ≤ m ∧ u = .int .i64 j ∧ Root.posV x S m = Root.posV x S j ∧ Ext w1 wi) (fun u _ => (intOf u).toNat)
      case atStart => exact ⟨m, Nat.le_refl _, rfl, rfl, Ext.refl _⟩
      case round =>
        obtain ⟨j, hj, rfl, hpos, hxj⟩ := hrel
        have HP := Lib.hid hpos
        clear hpos
        rcases j with _ | j
        · have HI : Hid (Root.insV S x = Root.insAt x S 0) := by
            have h0 : Root.posV x S S.length = 0 := by rw [← HM.out]; exact HP.out
            show Root.insV S x = Root.insAt x S 0
            unfold Root.insV
            rw [h0, if_neg (by omega)]
          rcases Ao with _ | ad
          · obtain ⟨rfl, rfl⟩ : m = 0 ∧ d = 0 := by
              rcases HO.out.2 with ⟨e1, _⟩ | ⟨g, cap, cur, e1, _⟩
              · simpa using e1
              · cases e1
            go_wp2
            refine wp_region_quiet_below (by kernel_rfl) (by kernel_rfl) ?_
            repeat (first | go_big_quiet_skip | (go_big_quiet_want; first | ((fail); (try simp only [Act.put, List.setIfInBounds_toArray, List.set_cons_zero, List.set_cons_succ]); go_big_quiet_on) | (go_big_quiet_op; first | go_big_quiet_on | go_big_quiet_call (fail))))
            refine wpQuiet_nil ?_
            intro _ hw'
            obtain ⟨pq, hw''⟩ := hw'
            subst hw''
            have x2 := hxj.trans (ext_regrown wr pq)
            generalize grow (redrawn wr pq.d) pq.os = wb at x2 ⊢
            go_wp2
            refine wp_region_quiet_lit (by kernel_rfl) (by kernel_rfl) ?_
            repeat (first | go_big_quiet_skip | (go_big_quiet_want; first | ((fail); (try simp only [Act.put, List.setIfInBounds_toArray, List.set_cons_zero, List.set_cons_succ]); go_big_quiet_on) | (go_big_quiet_op; first | go_big_quiet_on | go_big_quiet_call (fail))))
            refine wpQuiet_nil ?_
            intro _ hw'
            obtain ⟨nq', hw''⟩ := hw'
            subst hw''
            have x3 : Ext w1 (wb.drewN nq') := x2.drewN _
            generalize wb.drewN nq' = W1 at x3 ⊢
            have hpm : 0 ≤ 0 := Nat.le_refl _
            have RD : RL W1 none 0 0 (S.drop 0) := by rw [List.drop_zero]; exact hRS.out.ext x3
            have hSrc := wide_src (by omega) RD.row
            go_wp2_with (at_builtin; refine wpList_app rowRoots rfl _ _ rfl W1.heap.size (.slice none 0 0) 0 [] rfl (own_new _ _ _ _) none ((0 : Nat)) ((0 : Nat)) _ rfl hSrc (by omega) (Nat.le_refl _) ?_; intro v3 w3 own3 grow3 _; obtain ⟨A3, c3, rfl⟩ := own_form' own3; skip)
            have x13 : Ext W1 w3 := (Ext.refl _).grown grow3 (fun j e => by simp [Value.ownBlock] at e)
            have x03 := x3.trans x13
            have rx3 := rangeAt_ext HR.out x03
            have ownT := own_take (own_ext HO.out x03) hSok.out HM.out.symm hpm
            have HO3 := Lib.hid own3
            have hu23 := Try.underlying23
            have hz3 := (HX.out.trans x03).size
            clear own3 grow3 hSrc
            refine wp_region_noPanic ?_
            refine wp_region_held_drew (S := fun w' => w'.rangeAt b (off + k * 32) (rootC x)) (by kernel_rfl) (rangeAt_ext rx3 ((Ext.refl _).drew)) (fun hHeld => ?_)
            change wpAnyH _ _ _ _ _ 10 (Array.replicate 10 false) _ _
            refine wpAnyH_take (i := 0) (v := Value.slice none (0) (0)) rfl (by kernel_rfl) (by kernel_rfl) (by kernel_rfl) (fun _ _ _ h => h) (Or.inl ⟨by rfl, fun _ hSw => by first | (go_simp; done) | (go_simp; with_reducible rfl)⟩) hHeld ?_
            (try simp only [List.getElem_toArray, List.getElem_cons_zero, List.getElem_cons_succ, Act.put, List.setIfInBounds_toArray, List.set_cons_zero, List.set_cons_succ])
            refine wpAnyH_take (i := 1) (v := Value.int .i64 (0 : Nat)) rfl (by kernel_rfl) (by kernel_rfl) (by kernel_rfl) (fun _ _ _ h => h) (Or.inl ⟨by rfl, fun _ hSw => by first | (go_simp; done) | (go_simp; with_reducible rfl)⟩) hHeld ?_
            (try simp only [List.getElem_toArray, List.getElem_cons_zero, List.getElem_cons_succ, Act.put, List.setIfInBounds_toArray, List.set_cons_zero, List.set_cons_succ])
            refine wpAnyH_take (i := 2) (v := Value.slice none ((0 : Nat)) (0)) rfl (by kernel_rfl) (by kernel_rfl) (by kernel_rfl) (fun _ _ _ h => h) (Or.inl ⟨by rfl, fun _ hSw => by first | (go_simp; done) | (go_simp; with_reducible rfl)⟩) hHeld ?_
            (try simp only [List.getElem_toArray, List.getElem_cons_zero, List.getElem_cons_succ, Act.put, List.setIfInBounds_toArray, List.set_cons_zero, List.set_cons_succ])
            refine wpAnyH_take (i := 3) (v := Value.slice (some ⟨b, off, none⟩) n c) rfl (by kernel_rfl) (by kernel_rfl) (by kernel_rfl) (fun _ _ _ h => h) (Or.inl ⟨by rfl, fun _ hSw => by first | (go_simp; done) | (go_simp; with_reducible rfl)⟩) hHeld ?_
            (try simp only [List.getElem_toArray, List.getElem_cons_zero, List.getElem_cons_succ, Act.put, List.setIfInBounds_toArray, List.set_cons_zero, List.set_cons_succ])
            refine wpAnyH_take (i := 4) (v := Value.int .i64 k) rfl (by kernel_rfl) (by kernel_rfl) (by kernel_rfl) (fun _ _ _ h => h) (Or.inl ⟨by rfl, fun _ hSw => by first | (go_simp; done) | (go_simp; with_reducible rfl)⟩) hHeld ?_
            (try simp only [List.getElem_toArray, List.getElem_cons_zero, List.getElem_cons_succ, Act.put, List.setIfInBounds_toArray, List.set_cons_zero, List.set_cons_succ])
            refine wpAnyH_take (i := 5) (v := Value.pointer (some ⟨b, off + k * 32, none⟩)) rfl (by kernel_rfl) (by kernel_rfl) (by kernel_rfl) (fun _ _ _ h => h) (Or.inl ⟨by rfl, fun _ hSw => by first | (go_simp; done) | (go_simp; with_reducible rfl)⟩) hHeld ?_
            (try simp only [List.getElem_toArray, List.getElem_cons_zero, List.getElem_cons_succ, Act.put, List.setIfInBounds_toArray, List.set_cons_zero, List.set_cons_succ])
            refine wpAnyH_take (i := 6) (v := .agg (rootC x).toArray) rfl (by kernel_rfl) (by kernel_rfl) (by kernel_rfl) (fun _ _ _ h => h) (yieldsIf_load_mid (by rfl) 23 (.tmp 54) (by rfl) b (off + k * 32) (by go_simp) (rootC x) _ (fun w hw => hw) hu23 (by rfl) hi32) hHeld ?_
            (try simp only [List.getElem_toArray, List.getElem_cons_zero, List.getElem_cons_succ, Act.put, List.setIfInBounds_toArray, List.set_cons_zero, List.set_cons_succ])
            refine wpAnyH_ready (rs := [7]) (by kernel_rfl) (by simp) ?_
            refine AllReadyH.cons rfl (fun K hK => ?_) ?_
            · refine step_buildR (by rfl) 55 (by rfl) (rootC x) (by rfl) (rootC_len hokx) w3.heap.size rfl ?_
              refine hK.out _ _ (rangeAt_ext hHeld ((Ext.refl _).alloc _)) (fun hHeld => ?_)
              clear hK K
              (try simp only [List.getElem_toArray, List.getElem_cons_zero, List.getElem_cons_succ, Act.put, List.setIfInBounds_toArray, List.set_cons_zero, List.set_cons_succ])
              refine wpAnyH_ready (rs := [8]) (by kernel_rfl) (by simp) ?_
              refine AllReadyH.cons rfl (fun K hK => ?_) ?_
              · refine step_app rowRoots (by rfl) _ _ (by rfl) w.heap.size (.slice none ((0 : Nat)) (0)) ((0 : Nat)) ((S.take ((0 : Nat))).map rootC).flatten (by rfl) (own_ext ownT ((by repeat (first | assumption | exact Ext.refl _ | refine Ext.alloc ?_ _ | refine Ext.drew ?_ | refine Ext.drewN ?_ _ | refine Ext.setCell ?_ (by first | (simp; done) | omega | (simp; omega)) _ | refine Ext.trans (by assumption) ?_)))) (some ⟨w3.heap.size, 0, none⟩) 1 1 (rootC x) (by rfl) (src_newAt rfl (by rw [rootC_len hokx]) (root_one x)) (by omega) (by simp; omega) ?_
                intro v4 w4 own4 grow4 hat4
                obtain ⟨A4, c4, rfl⟩ := own_form' own4
                have x04 : Ext w w4 := (HX.out.trans x03).drew.alloc _ |>.grown grow4 (fun j e => (ownT.lt j e).1)
                refine hK.out _ _ (rangeAt_ext HR0.out x04) (fun hHeld => ?_)
                clear hK K
                (try simp only [List.getElem_toArray, List.getElem_cons_zero, List.getElem_cons_succ, Act.put, List.setIfInBounds_toArray, List.set_cons_zero, List.set_cons_succ])
                refine wpAnyH_take (i := 9) (v := Value.slice A4 ((0 : Nat) + 1) c4) rfl (by kernel_rfl) (by kernel_rfl) (by kernel_rfl) (fun _ _ _ h => h) (Or.inl ⟨by rfl, fun _ hSw => by first | (go_simp; done) | (go_simp; with_reducible rfl)⟩) hHeld ?_
                (try simp only [List.getElem_toArray, List.getElem_cons_zero, List.getElem_cons_succ, Act.put, List.setIfInBounds_toArray, List.set_cons_zero, List.set_cons_succ])
                refine wpAnyH_done (by kernel_rfl) ?_ _
                refine NoPanic.normal ?_
                have own3 : w3.ownsRow W1.heap.size 23 32 (.slice A3 ((0 : Nat)) c3) ((0 : Nat)) ((S.drop ((0 : Nat))).map rootC).flatten := by simpa using HO3.out
                have own3a := (own_ext own3 (show Ext w3 (w3.drew.alloc (.cells (rootC x).toArray 23)) from (by repeat (first | assumption | exact Ext.refl _ | refine Ext.alloc ?_ _ | refine Ext.drew ?_ | refine Ext.drewN ?_ _ | refine Ext.setCell ?_ (by first | (simp; done) | omega | (simp; omega)) _ | refine Ext.trans (by assumption) ?_)))).kept grow4 (by cases A3 with | none => exact Or.inl rfl | some a => exact Or.inr (by simp [Value.ownBlock]))
                have RL3 := own_RL own3a (by omega) (by have := HM.out; rw [List.length_drop]; omega) (fun r hr => hSok.out r (List.mem_of_mem_drop hr))
                have hSrc3 := wide_src (by omega) RL3.row
                have hz4 := x04.size
                go_wp2_with (at_builtin; refine wpList_app rowRoots rfl _ _ rfl w.heap.size (.slice A4 ((0 : Nat) + 1) c4) ((0 : Nat) + 1) _ rfl own4 A3 ((0 : Nat)) c3 _ rfl hSrc3 (by omega) (by omega) ?_; intro v5 w5 own5 grow5 _; obtain ⟨A5, c5, rfl⟩ := own_form' own5)
                have x05 : Ext w w5 := x04.grown grow5 (fun j e => (own4.lt j e).1)
                have hl5 : (Root.insAt x S ((0 : Nat))).length = (0 : Nat) + 1 + ((0 : Nat)) := by have := HM.out; unfold Root.insAt; simp only [List.length_append, List.length_take, List.length_drop, List.length_singleton]; omega
                have G5 : SortR w w5 (.slice A5 ((0 : Nat) + 1 + ((0 : Nat))) c5) (Root.insAt x S ((0 : Nat))) := by
                  refine ⟨x05, ?_⟩
                  rw [hl5]
                  have ef : ((Root.insAt x S ((0 : Nat))).map rootC).flatten = ((S.take ((0 : Nat))).map rootC).flatten ++ rootC x ++ ((S.drop ((0 : Nat))).map rootC).flatten := by unfold Root.insAt; simp
                  rw [ef]
                  exact own5
                go_wp2
                refine ⟨⟨k + 1, A5, _, c5, by omega, by go_num, rfl, ?_, ?_⟩, by simp [intOf]; omega⟩
                · rw [hrk.out, HI.out, hl5]; try omega
                · rw [hrk.out, HI.out]
                  first | exact G5 | simpa using G5
              · exact AllReadyH.nil
            · exact AllReadyH.nil
          · obtain ⟨g, rfl, hgb⟩ : ∃ g, ad = ⟨g, 0, none⟩ ∧ m ≤ d := by
              rcases HO.out.2 with ⟨e1, _⟩ | ⟨g, cap, cur, e1, hb, hh, hc, _⟩
              · cases e1
              · have e2 := (by simpa using e1 : ad = ⟨g, 0, none⟩ ∧ d = cap)
                exact ⟨g, e2.1, by omega⟩
            go_wp2
            refine wp_region_quiet_below (by kernel_rfl) (by kernel_rfl) ?_
            repeat (first | go_big_quiet_skip | (go_big_quiet_want; first | ((fail); (try simp only [Act.put, List.setIfInBounds_toArray, List.set_cons_zero, List.set_cons_succ]); go_big_quiet_on) | (go_big_quiet_op; first | go_big_quiet_on | go_big_quiet_call (fail))))
            refine wpQuiet_nil ?_
            intro _ hw'
            obtain ⟨pq, hw''⟩ := hw'
            subst hw''
            have x2 := hxj.trans (ext_regrown wr pq)
            generalize grow (redrawn wr pq.d) pq.os = wb at x2 ⊢
            go_wp2
            refine wp_region_quiet_lit (by kernel_rfl) (by kernel_rfl) ?_
            repeat (first | go_big_quiet_skip | (go_big_quiet_want; first | ((fail); (try simp only [Act.put, List.setIfInBounds_toArray, List.set_cons_zero, List.set_cons_succ]); go_big_quiet_on) | (go_big_quiet_op; first | go_big_quiet_on | go_big_quiet_call (fail))))
            refine wpQuiet_nil ?_
            intro _ hw'
            obtain ⟨nq', hw''⟩ := hw'
            subst hw''
            have x3 : Ext w1 (wb.drewN nq') := x2.drewN _
            generalize wb.drewN nq' = W1 at x3 ⊢
            have hpm : 0 ≤ m := Nat.zero_le _
            have RD : RL W1 (some ⟨g, 0, none⟩) m d (S.drop 0) := by rw [List.drop_zero]; exact hRS.out.ext x3
            have hgW : g < W1.heap.size := ((own_ext HO.out x3).lt g rfl).2
            have hSrc := wide_src (by omega) RD.row
            go_wp2_with (at_builtin; refine wpList_app rowRoots rfl _ _ rfl W1.heap.size (.slice none 0 0) 0 [] rfl (own_new _ _ _ _) (some ⟨g, 0, none⟩) (m) (d) _ rfl hSrc (by omega) (Nat.le_refl _) ?_; intro v3 w3 own3 grow3 _; obtain ⟨A3, c3, rfl⟩ := own_form' own3; skip)
            have x13 : Ext W1 w3 := (Ext.refl _).grown grow3 (fun j e => by simp [Value.ownBlock] at e)
            have x03 := x3.trans x13
            have rx3 := rangeAt_ext HR.out x03
            have ownT := own_take (own_ext HO.out x03) hSok.out HM.out.symm hpm
            have HO3 := Lib.hid own3
            have hu23 := Try.underlying23
            have hz3 := (HX.out.trans x03).size
            clear own3 grow3 hSrc
            refine wp_region_noPanic ?_
            refine wp_region_held_drew (S := fun w' => w'.rangeAt b (off + k * 32) (rootC x)) (by kernel_rfl) (rangeAt_ext rx3 ((Ext.refl _).drew)) (fun hHeld => ?_)
            change wpAnyH _ _ _ _ _ 10 (Array.replicate 10 false) _ _
            refine wpAnyH_take (i := 0) (v := Value.slice (some ⟨g, 0, none⟩) (m) (d)) rfl (by kernel_rfl) (by kernel_rfl) (by kernel_rfl) (fun _ _ _ h => h) (Or.inl ⟨by rfl, fun _ hSw => by first | (go_simp; done) | (go_simp; with_reducible rfl)⟩) hHeld ?_
            (try simp only [List.getElem_toArray, List.getElem_cons_zero, List.getElem_cons_succ, Act.put, List.setIfInBounds_toArray, List.set_cons_zero, List.set_cons_succ])
            refine wpAnyH_take (i := 1) (v := Value.int .i64 (0 : Nat)) rfl (by kernel_rfl) (by kernel_rfl) (by kernel_rfl) (fun _ _ _ h => h) (Or.inl ⟨by rfl, fun _ hSw => by first | (go_simp; done) | (go_simp; with_reducible rfl)⟩) hHeld ?_
            (try simp only [List.getElem_toArray, List.getElem_cons_zero, List.getElem_cons_succ, Act.put, List.setIfInBounds_toArray, List.set_cons_zero, List.set_cons_succ])
            refine wpAnyH_take (i := 2) (v := Value.slice (some ⟨g, 0, none⟩) ((0 : Nat)) (d)) rfl (by kernel_rfl) (by kernel_rfl) (by kernel_rfl) (fun _ _ _ h => h) (Or.inl ⟨by rfl, fun _ hSw => by first | (go_simp; done) | (go_simp; with_reducible rfl)⟩) hHeld ?_
            (try simp only [List.getElem_toArray, List.getElem_cons_zero, List.getElem_cons_succ, Act.put, List.setIfInBounds_toArray, List.set_cons_zero, List.set_cons_succ])
            refine wpAnyH_take (i := 3) (v := Value.slice (some ⟨b, off, none⟩) n c) rfl (by kernel_rfl) (by kernel_rfl) (by kernel_rfl) (fun _ _ _ h => h) (Or.inl ⟨by rfl, fun _ hSw => by first | (go_simp; done) | (go_simp; with_reducible rfl)⟩) hHeld ?_
            (try simp only [List.getElem_toArray, List.getElem_cons_zero, List.getElem_cons_succ, Act.put, List.setIfInBounds_toArray, List.set_cons_zero, List.set_cons_succ])
            refine wpAnyH_take (i := 4) (v := Value.int .i64 k) rfl (by kernel_rfl) (by kernel_rfl) (by kernel_rfl) (fun _ _ _ h => h) (Or.inl ⟨by rfl, fun _ hSw => by first | (go_simp; done) | (go_simp; with_reducible rfl)⟩) hHeld ?_
            (try simp only [List.getElem_toArray, List.getElem_cons_zero, List.getElem_cons_succ, Act.put, List.setIfInBounds_toArray, List.set_cons_zero, List.set_cons_succ])
            refine wpAnyH_take (i := 5) (v := Value.pointer (some ⟨b, off + k * 32, none⟩)) rfl (by kernel_rfl) (by kernel_rfl) (by kernel_rfl) (fun _ _ _ h => h) (Or.inl ⟨by rfl, fun _ hSw => by first | (go_simp; done) | (go_simp; with_reducible rfl)⟩) hHeld ?_
            (try simp only [List.getElem_toArray, List.getElem_cons_zero, List.getElem_cons_succ, Act.put, List.setIfInBounds_toArray, List.set_cons_zero, List.set_cons_succ])
            refine wpAnyH_take (i := 6) (v := .agg (rootC x).toArray) rfl (by kernel_rfl) (by kernel_rfl) (by kernel_rfl) (fun _ _ _ h => h) (yieldsIf_load_mid (by rfl) 23 (.tmp 54) (by rfl) b (off + k * 32) (by go_simp) (rootC x) _ (fun w hw => hw) hu23 (by rfl) hi32) hHeld ?_
            (try simp only [List.getElem_toArray, List.getElem_cons_zero, List.getElem_cons_succ, Act.put, List.setIfInBounds_toArray, List.set_cons_zero, List.set_cons_succ])
            refine wpAnyH_ready (rs := [7]) (by kernel_rfl) (by simp) ?_
            refine AllReadyH.cons rfl (fun K hK => ?_) ?_
            · refine step_buildR (by rfl) 55 (by rfl) (rootC x) (by rfl) (rootC_len hokx) w3.heap.size rfl ?_
              refine hK.out _ _ (rangeAt_ext hHeld ((Ext.refl _).alloc _)) (fun hHeld => ?_)
              clear hK K
              (try simp only [List.getElem_toArray, List.getElem_cons_zero, List.getElem_cons_succ, Act.put, List.setIfInBounds_toArray, List.set_cons_zero, List.set_cons_succ])
              refine wpAnyH_ready (rs := [8]) (by kernel_rfl) (by simp) ?_
              refine AllReadyH.cons rfl (fun K hK => ?_) ?_
              · refine step_app rowRoots (by rfl) _ _ (by rfl) w.heap.size (.slice (some ⟨g, 0, none⟩) ((0 : Nat)) (d)) ((0 : Nat)) ((S.take ((0 : Nat))).map rootC).flatten (by rfl) (own_ext ownT ((by repeat (first | assumption | exact Ext.refl _ | refine Ext.alloc ?_ _ | refine Ext.drew ?_ | refine Ext.drewN ?_ _ | refine Ext.setCell ?_ (by first | (simp; done) | omega | (simp; omega)) _ | refine Ext.trans (by assumption) ?_)))) (some ⟨w3.heap.size, 0, none⟩) 1 1 (rootC x) (by rfl) (src_newAt rfl (by rw [rootC_len hokx]) (root_one x)) (by omega) (by simp; omega) ?_
                intro v4 w4 own4 grow4 hat4
                obtain ⟨A4, c4, rfl⟩ := own_form' own4
                have x04 : Ext w w4 := (HX.out.trans x03).drew.alloc _ |>.grown grow4 (fun j e => (ownT.lt j e).1)
                refine hK.out _ _ (rangeAt_ext HR0.out x04) (fun hHeld => ?_)
                clear hK K
                (try simp only [List.getElem_toArray, List.getElem_cons_zero, List.getElem_cons_succ, Act.put, List.setIfInBounds_toArray, List.set_cons_zero, List.set_cons_succ])
                refine wpAnyH_take (i := 9) (v := Value.slice A4 ((0 : Nat) + 1) c4) rfl (by kernel_rfl) (by kernel_rfl) (by kernel_rfl) (fun _ _ _ h => h) (Or.inl ⟨by rfl, fun _ hSw => by first | (go_simp; done) | (go_simp; with_reducible rfl)⟩) hHeld ?_
                (try simp only [List.getElem_toArray, List.getElem_cons_zero, List.getElem_cons_succ, Act.put, List.setIfInBounds_toArray, List.set_cons_zero, List.set_cons_succ])
                refine wpAnyH_done (by kernel_rfl) ?_ _
                refine NoPanic.normal ?_
                have own3 : w3.ownsRow W1.heap.size 23 32 (.slice A3 (m) c3) (m) ((S.drop ((0 : Nat))).map rootC).flatten := by simpa using HO3.out
                have own3a := (own_ext own3 (show Ext w3 (w3.drew.alloc (.cells (rootC x).toArray 23)) from (by repeat (first | assumption | exact Ext.refl _ | refine Ext.alloc ?_ _ | refine Ext.drew ?_ | refine Ext.drewN ?_ _ | refine Ext.setCell ?_ (by first | (simp; done) | omega | (simp; omega)) _ | refine Ext.trans (by assumption) ?_)))).kept grow4 (Or.inr (ne_own (own_ext own3 (show Ext w3 w3 from Ext.refl _)) hgW))
                have RL3 := own_RL own3a (by omega) (by have := HM.out; rw [List.length_drop]; omega) (fun r hr => hSok.out r (List.mem_of_mem_drop hr))
                have hSrc3 := wide_src (by omega) RL3.row
                have hz4 := x04.size
                go_wp2_with (at_builtin; refine wpList_app rowRoots rfl _ _ rfl w.heap.size (.slice A4 ((0 : Nat) + 1) c4) ((0 : Nat) + 1) _ rfl own4 A3 (m) c3 _ rfl hSrc3 (by omega) (by omega) ?_; intro v5 w5 own5 grow5 _; obtain ⟨A5, c5, rfl⟩ := own_form' own5)
                have x05 : Ext w w5 := x04.grown grow5 (fun j e => (own4.lt j e).1)
                have hl5 : (Root.insAt x S ((0 : Nat))).length = (0 : Nat) + 1 + (m) := by have := HM.out; unfold Root.insAt; simp only [List.length_append, List.length_take, List.length_drop, List.length_singleton]; omega
                have G5 : SortR w w5 (.slice A5 ((0 : Nat) + 1 + (m)) c5) (Root.insAt x S ((0 : Nat))) := by
                  refine ⟨x05, ?_⟩
                  rw [hl5]
                  have ef : ((Root.insAt x S ((0 : Nat))).map rootC).flatten = ((S.take ((0 : Nat))).map rootC).flatten ++ rootC x ++ ((S.drop ((0 : Nat))).map rootC).flatten := by unfold Root.insAt; simp
                  rw [ef]
                  exact own5
                go_wp2
                refine ⟨⟨k + 1, A5, _, c5, by omega, by go_num, rfl, ?_, ?_⟩, by simp [intOf]; omega⟩
                · rw [hrk.out, HI.out, hl5]; try omega
                · rw [hrk.out, HI.out]
                  first | exact G5 | simpa using G5
              · exact AllReadyH.nil
            · exact AllReadyH.nil
        · obtain ⟨g, o, rfl, hry0, hoky⟩ := (hRS.out.ext hxj).at' (i := j) (by omega)
          obtain rfl : o = 0 := by
            rcases HO.out.2 with ⟨e1, _⟩ | ⟨g', cap, cur, e1, _⟩
            · cases e1
            · exact (by simpa using e1 : (g = g' ∧ o = 0) ∧ d = cap).1.2
          have hgb : m ≤ d := hRS.out.row.cap
          rw [Nat.zero_add] at hry0
          have HY := Lib.hid (fun W (kx : Ext wr W) => rangeAt_ext hry0 kx)
          have hry := hry0
          have hrx := rangeAt_ext HR.out hxj
          have hstep : Root.posV x S (j + 1) = if Root.ltV x (S.getD j zeroR) = true then Root.posV x S j else j + 1 := by rw [Root.posV]
          have HJ := Lib.hid hstep
          clear hstep hry0
          obtain ⟨y, hy⟩ : ∃ y, S.getD j zeroR = y := ⟨_, rfl⟩
          rw [hy] at hry hoky HY HJ
          have HYE := Lib.hid hy
          clear hy
          have hj32 : (Try.prog.info? 23).map (·.size) = some (rootC y).length := by rw [rootC_len hoky]; kernel_rfl
          have HLE := Lib.hid (fun W => rless_any x y hokx hoky W)
          cases hq : Root.ltV x y with
          | true =>
            rw [hq] at HLE
            have HP2 : Hid (Root.posV x S m = Root.posV x S j) := by
              have := HJ.out
              rw [if_pos hq] at this
              exact HP.out.trans this
            clear hq
            go_wp2
            refine wp_region_quiet_below (by kernel_rfl) (by kernel_rfl) ?_
            repeat (first | go_big_quiet_skip | (go_big_quiet_want; first | ((first | (refine quiet_load_mid 23 _ rfl _ _ rfl (rootC x) _ (fun W ⟨p, hp⟩ => hp ▸ rangeAt_ext hrx (ext_regrown _ p)) Try.underlying23 rfl hi32 ?_) | (refine quiet_load_mid 23 _ rfl _ _ rfl (rootC y) _ (fun W ⟨p, hp⟩ => hp ▸ rangeAt_ext hry (ext_regrown _ p)) Try.underlying23 rfl hj32 ?_)); (try simp only [Act.put, List.setIfInBounds_toArray, List.set_cons_zero, List.set_cons_succ]); go_big_quiet_on) | (go_big_quiet_op; first | go_big_quiet_on | go_big_quiet_call ((go_at_call 12; exact regrown_ext (HLE.out _))))))
            refine wpQuiet_nil ?_
            intro _ hw'
            obtain ⟨pq, hw''⟩ := hw'
            subst hw''
            go_wp2
            go_roundw
            case rel => exact ⟨j, by omega, by go_num, HP2.out, hxj.trans (ext_regrown _ _)⟩
            case measure => simp [intOf]
          | false =>
            rw [hq] at HLE
            have HP2 : Hid (Root.posV x S S.length = j + 1) := by
              have := HJ.out
              rw [if_neg (by rw [hq]; exact Bool.false_ne_true)] at this
              show Root.posV x S S.length = j + 1
              rw [← HM.out]
              exact HP.out.trans this
            clear hq
            go_wp2
            refine wp_region_quiet_below (by kernel_rfl) (by kernel_rfl) ?_
            repeat (first | go_big_quiet_skip | (go_big_quiet_want; first | ((first | (refine quiet_load_mid 23 _ rfl _ _ rfl (rootC x) _ (fun W ⟨p, hp⟩ => hp ▸ rangeAt_ext hrx (ext_regrown _ p)) Try.underlying23 rfl hi32 ?_) | (refine quiet_load_mid 23 _ rfl _ _ rfl (rootC y) _ (fun W ⟨p, hp⟩ => hp ▸ rangeAt_ext hry (ext_regrown _ p)) Try.underlying23 rfl hj32 ?_)); (try simp only [Act.put, List.setIfInBounds_toArray, List.set_cons_zero, List.set_cons_succ]); go_big_quiet_on) | (go_big_quiet_op; first | go_big_quiet_on | go_big_quiet_call ((go_at_call 12; exact regrown_ext (HLE.out _))))))
            refine wpQuiet_nil ?_
            intro _ hw'
            obtain ⟨pq, hw''⟩ := hw'
            subst hw''
            have x2 := hxj.trans (ext_regrown wr pq)
            have hrx := rangeAt_ext HR.out x2
            have hry := HY.out _ (ext_regrown wr pq)
            generalize grow (redrawn wr pq.d) pq.os = wb at x2 hrx hry ⊢
            go_wp2
            by_cases hxy : y = x
            · subst hxy
              have hq2 : ∀ W, (binOp .eql 23 (.agg (rootC y).toArray) (.agg (rootC y).toArray)).run Try.prog W = .ok (.bool true) W := fun W => root_eql hokx hokx (b := true) (by simp) W
              have HI : Hid (Root.insV S y = S) := by
                show Root.insV S y = S
                unfold Root.insV
                rw [HP2.out, if_pos ⟨by omega, by rw [Nat.add_sub_cancel]; exact HYE.out⟩]
              refine wp_region_quiet_lit (by kernel_rfl) (by kernel_rfl) ?_
              repeat (first | go_big_quiet_skip | (go_big_quiet_want; first | ((first | (refine quiet_load_mid 23 _ rfl _ _ rfl (rootC y) _ (fun W ⟨nn, hn⟩ => hn ▸ rangeAt_ext hry ((Ext.refl _).drewN nn)) Try.underlying23 rfl hj32 ?_) | (refine quiet_load_mid 23 _ rfl _ _ rfl (rootC y) _ (fun W ⟨nn, hn⟩ => hn ▸ rangeAt_ext hrx ((Ext.refl _).drewN nn)) Try.underlying23 rfl hi32 ?_)); (try simp only [Act.put, List.setIfInBounds_toArray, List.set_cons_zero, List.set_cons_succ]); go_big_quiet_on) | (go_big_quiet_op; first | go_big_quiet_on | go_big_quiet_call (fail))))
              refine wpQuiet_nil ?_
              intro _ hw'
              obtain ⟨nq', hw''⟩ := hw'
              subst hw''
              have x3 : Ext w1 (wb.drewN nq') := x2.drewN _
              go_wp2
              go_roundw
              case rel =>
                refine ⟨k + 1, _, m, d, by omega, by go_num, rfl, ?_, ?_⟩
                · rw [hrk.out, HI.out]; exact HM.out
                · rw [hrk.out, HI.out]
                  exact ⟨HX.out.trans x3, by rw [← HM.out]; exact own_ext HO.out x3⟩
              case measure => simp [intOf]; omega
            · have hq2 : ∀ W, (binOp .eql 23 (.agg (rootC y).toArray) (.agg (rootC x).toArray)).run Try.prog W = .ok (.bool false) W := fun W => root_eql hoky hokx (b := false) (by simp [hxy]) W
              have HI : Hid (Root.insV S x = Root.insAt x S (j + 1)) := by
                show Root.insV S x = Root.insAt x S (j + 1)
                unfold Root.insV
                rw [HP2.out, if_neg (fun h => hxy (by rw [Nat.add_sub_cancel] at h; rw [← HYE.out]; exact h.2))]
              clear hxy
              refine wp_region_quiet_lit (by kernel_rfl) (by kernel_rfl) ?_
              repeat (first | go_big_quiet_skip | (go_big_quiet_want; first | ((first | (refine quiet_load_mid 23 _ rfl _ _ rfl (rootC y) _ (fun W ⟨nn, hn⟩ => hn ▸ rangeAt_ext hry ((Ext.refl _).drewN nn)) Try.underlying23 rfl hj32 ?_) | (refine quiet_load_mid 23 _ rfl _ _ rfl (rootC x) _ (fun W ⟨nn, hn⟩ => hn ▸ rangeAt_ext hrx ((Ext.refl _).drewN nn)) Try.underlying23 rfl hi32 ?_)); (try simp only [Act.put, List.setIfInBounds_toArray, List.set_cons_zero, List.set_cons_succ]); go_big_quiet_on) | (go_big_quiet_op; first | go_big_quiet_on | go_big_quiet_call (fail))))
              refine wpQuiet_nil ?_
              intro _ hw'
              obtain ⟨nq', hw''⟩ := hw'
              subst hw''
              have x3 : Ext w1 (wb.drewN nq') := x2.drewN _
              generalize wb.drewN nq' = W1 at x3 ⊢
              have hpm : j + 1 ≤ m := hj
              have RD := (hRS.out.ext x3).dropIf hpm
              have hgW : g < W1.heap.size := ((own_ext HO.out x3).lt g rfl).2
              clear HJ HYE HY hrx hry
              have gq1 : (0 : Int) ≤ (j : Int) + 1 := by omega
              have gq2 : ¬ (d : Int) < (j : Int) + 1 := by omega
              have gq3 : (j : Int) + 1 ≤ (d : Int) := by omega
              have hSrc := wide_src (by omega) RD.row
              go_wp2_with (at_builtin; refine wpList_app rowRoots rfl _ _ rfl W1.heap.size (.slice none 0 0) 0 [] rfl (own_new _ _ _ _) (if d = j + 1 then some ⟨g, 0, none⟩ else some ⟨g, (j + 1) * 32, none⟩) ((m - (j + 1))) ((d - (j + 1))) _ rfl hSrc (by omega) (Nat.le_refl _) ?_; intro v3 w3 own3 grow3 _; obtain ⟨A3, c3, rfl⟩ := own_form' own3; (generalize (if d = j + 1 then some (⟨g, 0, none⟩ : Addr) else some ⟨g, (j + 1) * 32, none⟩) = A9x at *))
              have x13 : Ext W1 w3 := (Ext.refl _).grown grow3 (fun j e => by simp [Value.ownBlock] at e)
              have x03 := x3.trans x13
              have rx3 := rangeAt_ext HR.out x03
              have ownT := own_take (own_ext HO.out x03) hSok.out HM.out.symm hpm
              have HO3 := Lib.hid own3
              have hu23 := Try.underlying23
              have hz3 := (HX.out.trans x03).size
              clear own3 grow3 hSrc
              refine wp_region_noPanic ?_
              refine wp_region_held_drew (S := fun w' => w'.rangeAt b (off + k * 32) (rootC x)) (by kernel_rfl) (rangeAt_ext rx3 ((Ext.refl _).drew)) (fun hHeld => ?_)
              change wpAnyH _ _ _ _ _ 10 (Array.replicate 10 false) _ _
              refine wpAnyH_take (i := 0) (v := Value.slice (some ⟨g, 0, none⟩) (m) (d)) rfl (by kernel_rfl) (by kernel_rfl) (by kernel_rfl) (fun _ _ _ h => h) (Or.inl ⟨by rfl, fun _ hSw => by first | (go_simp; done) | (go_simp; with_reducible rfl)⟩) hHeld ?_
              (try simp only [List.getElem_toArray, List.getElem_cons_zero, List.getElem_cons_succ, Act.put, List.setIfInBounds_toArray, List.set_cons_zero, List.set_cons_succ])
              refine wpAnyH_take (i := 1) (v := Value.int .i64 (j + 1)) rfl (by kernel_rfl) (by kernel_rfl) (by kernel_rfl) (fun _ _ _ h => h) (Or.inl ⟨by rfl, fun _ hSw => by first | (go_simp; done) | (go_simp; with_reducible rfl)⟩) hHeld ?_
              (try simp only [List.getElem_toArray, List.getElem_cons_zero, List.getElem_cons_succ, Act.put, List.setIfInBounds_toArray, List.set_cons_zero, List.set_cons_succ])
              refine wpAnyH_take (i := 2) (v := Value.slice (some ⟨g, 0, none⟩) ((j + 1)) (d)) rfl (by kernel_rfl) (by kernel_rfl) (by kernel_rfl) (fun _ _ _ h => h) (Or.inl ⟨by rfl, fun _ hSw => by first | (go_simp; done) | (go_simp; with_reducible rfl)⟩) hHeld ?_
              (try simp only [List.getElem_toArray, List.getElem_cons_zero, List.getElem_cons_succ, Act.put, List.setIfInBounds_toArray, List.set_cons_zero, List.set_cons_succ])
              refine wpAnyH_take (i := 3) (v := Value.slice (some ⟨b, off, none⟩) n c) rfl (by kernel_rfl) (by kernel_rfl) (by kernel_rfl) (fun _ _ _ h => h) (Or.inl ⟨by rfl, fun _ hSw => by first | (go_simp; done) | (go_simp; with_reducible rfl)⟩) hHeld ?_
              (try simp only [List.getElem_toArray, List.getElem_cons_zero, List.getElem_cons_succ, Act.put, List.setIfInBounds_toArray, List.set_cons_zero, List.set_cons_succ])
              refine wpAnyH_take (i := 4) (v := Value.int .i64 k) rfl (by kernel_rfl) (by kernel_rfl) (by kernel_rfl) (fun _ _ _ h => h) (Or.inl ⟨by rfl, fun _ hSw => by first | (go_simp; done) | (go_simp; with_reducible rfl)⟩) hHeld ?_
              (try simp only [List.getElem_toArray, List.getElem_cons_zero, List.getElem_cons_succ, Act.put, List.setIfInBounds_toArray, List.set_cons_zero, List.set_cons_succ])
              refine wpAnyH_take (i := 5) (v := Value.pointer (some ⟨b, off + k * 32, none⟩)) rfl (by kernel_rfl) (by kernel_rfl) (by kernel_rfl) (fun _ _ _ h => h) (Or.inl ⟨by rfl, fun _ hSw => by first | (go_simp; done) | (go_simp; with_reducible rfl)⟩) hHeld ?_
              (try simp only [List.getElem_toArray, List.getElem_cons_zero, List.getElem_cons_succ, Act.put, List.setIfInBounds_toArray, List.set_cons_zero, List.set_cons_succ])
              refine wpAnyH_take (i := 6) (v := .agg (rootC x).toArray) rfl (by kernel_rfl) (by kernel_rfl) (by kernel_rfl) (fun _ _ _ h => h) (yieldsIf_load_mid (by rfl) 23 (.tmp 54) (by rfl) b (off + k * 32) (by go_simp) (rootC x) _ (fun w hw => hw) hu23 (by rfl) hi32) hHeld ?_
              (try simp only [List.getElem_toArray, List.getElem_cons_zero, List.getElem_cons_succ, Act.put, List.setIfInBounds_toArray, List.set_cons_zero, List.set_cons_succ])
              refine wpAnyH_ready (rs := [7]) (by kernel_rfl) (by simp) ?_
              refine AllReadyH.cons rfl (fun K hK => ?_) ?_
              · refine step_buildR (by rfl) 55 (by rfl) (rootC x) (by rfl) (rootC_len hokx) w3.heap.size rfl ?_
                refine hK.out _ _ (rangeAt_ext hHeld ((Ext.refl _).alloc _)) (fun hHeld => ?_)
                clear hK K
                (try simp only [List.getElem_toArray, List.getElem_cons_zero, List.getElem_cons_succ, Act.put, List.setIfInBounds_toArray, List.set_cons_zero, List.set_cons_succ])
                refine wpAnyH_ready (rs := [8]) (by kernel_rfl) (by simp) ?_
                refine AllReadyH.cons rfl (fun K hK => ?_) ?_
                · refine step_app rowRoots (by rfl) _ _ (by rfl) w.heap.size (.slice (some ⟨g, 0, none⟩) ((j + 1)) (d)) ((j + 1)) ((S.take ((j + 1))).map rootC).flatten (by rfl) (own_ext ownT ((by repeat (first | assumption | exact Ext.refl _ | refine Ext.alloc ?_ _ | refine Ext.drew ?_ | refine Ext.drewN ?_ _ | refine Ext.setCell ?_ (by first | (simp; done) | omega | (simp; omega)) _ | refine Ext.trans (by assumption) ?_)))) (some ⟨w3.heap.size, 0, none⟩) 1 1 (rootC x) (by rfl) (src_newAt rfl (by rw [rootC_len hokx]) (root_one x)) (by omega) (by simp; omega) ?_
                  intro v4 w4 own4 grow4 hat4
                  obtain ⟨A4, c4, rfl⟩ := own_form' own4
                  have x04 : Ext w w4 := (HX.out.trans x03).drew.alloc _ |>.grown grow4 (fun j e => (ownT.lt j e).1)
                  refine hK.out _ _ (rangeAt_ext HR0.out x04) (fun hHeld => ?_)
                  clear hK K
                  (try simp only [List.getElem_toArray, List.getElem_cons_zero, List.getElem_cons_succ, Act.put, List.setIfInBounds_toArray, List.set_cons_zero, List.set_cons_succ])
                  refine wpAnyH_take (i := 9) (v := Value.slice A4 ((j + 1) + 1) c4) rfl (by kernel_rfl) (by kernel_rfl) (by kernel_rfl) (fun _ _ _ h => h) (Or.inl ⟨by rfl, fun _ hSw => by first | (go_simp; done) | (go_simp; with_reducible rfl)⟩) hHeld ?_
                  (try simp only [List.getElem_toArray, List.getElem_cons_zero, List.getElem_cons_succ, Act.put, List.setIfInBounds_toArray, List.set_cons_zero, List.set_cons_succ])
                  refine wpAnyH_done (by kernel_rfl) ?_ _
                  refine NoPanic.normal ?_
                  have own3 : w3.ownsRow W1.heap.size 23 32 (.slice A3 ((m - (j + 1))) c3) ((m - (j + 1))) ((S.drop ((j + 1))).map rootC).flatten := by simpa using HO3.out
                  have own3a := (own_ext own3 (show Ext w3 (w3.drew.alloc (.cells (rootC x).toArray 23)) from (by repeat (first | assumption | exact Ext.refl _ | refine Ext.alloc ?_ _ | refine Ext.drew ?_ | refine Ext.drewN ?_ _ | refine Ext.setCell ?_ (by first | (simp; done) | omega | (simp; omega)) _ | refine Ext.trans (by assumption) ?_)))).kept grow4 (Or.inr (ne_own (own_ext own3 (show Ext w3 w3 from Ext.refl _)) hgW))
                  have RL3 := own_RL own3a (by omega) (by have := HM.out; rw [List.length_drop]; omega) (fun r hr => hSok.out r (List.mem_of_mem_drop hr))
                  have hSrc3 := wide_src (by omega) RL3.row
                  have hz4 := x04.size
                  go_wp2_with (at_builtin; refine wpList_app rowRoots rfl _ _ rfl w.heap.size (.slice A4 ((j + 1) + 1) c4) ((j + 1) + 1) _ rfl own4 A3 ((m - (j + 1))) c3 _ rfl hSrc3 (by omega) (by omega) ?_; intro v5 w5 own5 grow5 _; obtain ⟨A5, c5, rfl⟩ := own_form' own5)
                  have x05 : Ext w w5 := x04.grown grow5 (fun j e => (own4.lt j e).1)
                  have hl5 : (Root.insAt x S ((j + 1))).length = (j + 1) + 1 + ((m - (j + 1))) := by have := HM.out; unfold Root.insAt; simp only [List.length_append, List.length_take, List.length_drop, List.length_singleton]; omega
                  have G5 : SortR w w5 (.slice A5 ((j + 1) + 1 + ((m - (j + 1)))) c5) (Root.insAt x S ((j + 1))) := by
                    refine ⟨x05, ?_⟩
                    rw [hl5]
                    have ef : ((Root.insAt x S ((j + 1))).map rootC).flatten = ((S.take ((j + 1))).map rootC).flatten ++ rootC x ++ ((S.drop ((j + 1))).map rootC).flatten := by unfold Root.insAt; simp
                    rw [ef]
                    exact own5
                  go_wp2
                  refine ⟨⟨k + 1, A5, _, c5, by omega, by go_num, rfl, ?_, ?_⟩, by simp [intOf]; omega⟩
                  · rw [hrk.out, HI.out, hl5]; try omega
                  · rw [hrk.out, HI.out]
                    first | exact G5 | simpa using G5
                · exact AllReadyH.nil
              · exact AllReadyH.nil
    · have e : k = n := by omega
      subst e
      have hG : SortR w wr (.slice Ao m d) (Root.refV R) := by
        have := G
        rwa [List.take_of_length_le (by omega)] at this
      have hme : m = (Root.refV R).length := by rwa [List.take_of_length_le (by omega)] at hm
      have hown := hG.own
      rw [← hme] at hown
      have hRL := own_RL hown (by have := Root.ref_len R; omega) hme.symm (fun r hr => HOK.out r (Root.ref_mem.1 hr))
      have hxx := hG.ext
      clear G hG hown hm hme
      go_wp2
      go_ret
      exact ⟨⟨_, _, _, rfl, hRL⟩, hxx⟩
end Go.Proofs.Ytamibbcdklpncaa
