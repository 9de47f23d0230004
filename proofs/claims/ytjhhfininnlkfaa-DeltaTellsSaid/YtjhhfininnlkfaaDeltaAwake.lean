/- Layer 14: the chapter's example. -/
import Derived.Test.YtjhhfininnlkfaaDelta
import Derived.Test.YtjhhfininnlkfaaVotePut
import Derived.Test.YtjhhfininnlkfaaTreeThree
import Derived.Deep.DeepCutAuto
import Derived.Deep.RegionHeld3
namespace Go.Proofs.Ytjhhfininnlkfaa
open Go.RowKit Go.WideShapes Go.ChangeShapes Go.Joins Go.Deep
set_option linter.unusedVariables false
set_option linter.unusedSimpArgs false










instance : DecidableEq Lat := fun x y => decidable_of_iff _ (@Lat.eqb_iff x y)
def F3 : List Node := [⟨rootN 1, -1, 0, 0⟩, ⟨rootN 2, 0, 1, 0⟩, ⟨rootN 3, 0, 2, 0⟩]
theorem F3_ok : ∀ x ∈ F3, x.Ok := by
  intro x hx
  unfold F3 at hx
  simp at hx
  rcases hx with rfl | rfl | rfl
  · exact ⟨rootN_ok (by decide), by decide, by decide, by decide⟩
  · exact ⟨rootN_ok (by decide), by decide, by decide, by decide⟩
  · exact ⟨rootN_ok (by decide), by decide, by decide, by decide⟩
set_option maxRecDepth 100000 in
theorem fork_any (w : World) : Calls Try.prog 19 #[] w fun e w' => (∃ A c, e = .returned (.agg #[.slice A 3 c]) ∧ NL w' A 3 c F3) ∧ Ext w w' := by
  go_enter Try.func19, Try.ntmps19
  go_wp2
  refine bodyPost_ret (v := .agg #[.slice (some ⟨w.heap.size + 1, 0, none⟩) 3 3]) (by simp (maxDischargeDepth := 7) [results, Try.results19, go_sem]) rfl ⟨⟨_, _, rfl, ?_⟩, (by repeat (first | assumption | exact Ext.refl _ | refine Ext.alloc ?_ _ | refine Ext.drew ?_ | refine Ext.drewN ?_ _ | refine Ext.setCell ?_ (by first | (simp; done) | omega | (simp; omega)) _ | refine Ext.trans (by assumption) ?_))⟩
  exact NL.made (by simp) rfl rfl (by omega) rfl F3_ok
def V1 : List Lat := [⟨true, rootN 2, 1⟩]
def V2 : List Lat := [⟨true, rootN 3, 2⟩]
set_option maxRecDepth 100000 in
theorem e_fit : Delta.fit2 F3 V1 0 V2 0 [3] = true := by decide
set_option maxRecDepth 100000 in
theorem e_came : Delta.cameV F3 V1 0 V2 0 [3] = [0, 0, 3] := by decide
set_option maxRecDepth 100000 in
theorem e_went : Delta.wentV F3 V1 0 V2 0 [3] = [0, 3, 0] := by decide
set_option maxRecDepth 100000 in
theorem e_heavy : Delta.heavyV F3 V2 0 [3] = some [3, 0, 3] := by decide
theorem new_one (W : World) : Calls Try.prog 18 #[.int .i64 1] W fun e w' => (∃ A c, e = .returned (.tuple #[.agg #[.slice A 1 c, .int .u64 0], .bool true]) ∧ VL w' A 1 c [Lat.none]) ∧ Ext W w' := by
  refine (new_any 1 W).mono ?_
  rintro e w1 ⟨⟨A, n, c, rfl, h⟩, hx⟩
  have hn : n = 1 := h.len.symm
  subst hn
  exact ⟨⟨A, c, rfl, h⟩, hx⟩
theorem put_a (A : Option Addr) (c : Nat) (W : World) (h : VL W A 1 c [Lat.none]) : Calls Try.prog 15 #[.agg #[.slice A 1 c, .int .u64 0], .int .i64 0, .agg (rootC (rootN 2)).toArray, .int .u64 1] W fun e' w' => (∃ A2 c2, e' = .returned (.tuple #[.agg #[.slice A2 1 c2, .int .u64 0], .int .i64 1, .int .i64 0]) ∧ VL w' A2 1 c2 V1) ∧ Ext W w' := by
  have k := put_any A 1 c 0 (by decide) [Lat.none] 0 (rootN 2) (rootN_ok (by decide)) 1 (by decide) W h
  rw [show putV [Lat.none] 0 0 (rootN 2) 1 = (V1, 0, 1, 0) from by decide] at k
  exact k
theorem put_b (A : Option Addr) (c : Nat) (W : World) (h : VL W A 1 c V1) : Calls Try.prog 15 #[.agg #[.slice A 1 c, .int .u64 0], .int .i64 0, .agg (rootC (rootN 3)).toArray, .int .u64 2] W fun e' w' => (∃ A2 c2, e' = .returned (.tuple #[.agg #[.slice A2 1 c2, .int .u64 0], .int .i64 1, .int .i64 0]) ∧ VL w' A2 1 c2 V2) ∧ Ext W w' := by
  have k := put_any A 1 c 0 (by decide) V1 0 (rootN 3) (rootN_ok (by decide)) 2 (by decide) W h
  rw [show putV V1 0 0 (rootN 3) 2 = (V2, 0, 1, 0) from by decide] at k
  exact k
set_option maxRecDepth 8000 in
set_option maxHeartbeats 4000000 in
theorem awake_any (w : World) : Calls Try.prog 7 #[] w fun e w' => e = .returned (.bool true) ∧ Ext w w' := by
  have HN := Lib.hid (fun W => new_one W)
  have HP1 := Lib.hid (fun W A c (h : VL W A 1 c [Lat.none]) => put_a A c W h)
  have HP2 := Lib.hid (fun W A c (h : VL W A 1 c V1) => put_b A c W h)
  have HFK := Lib.hid (fun W => fork_any W)
  have HO := Lib.hid (fun A c A1 c1 A2 c2 B W (h : NL W A 3 c F3) (h1 : VL W A1 1 c1 V1) (h2 : VL W A2 1 c2 V2) (g : Ints W .u64 B 1 1 [3]) => (by have k := dof_any A 3 c F3 A1 1 c1 0 V1 (by decide) A2 1 c2 0 V2 (by decide) B 1 1 [3] W h h1 h2 g; rw [e_fit, e_came, e_went] at k; exact k : Calls Try.prog 12 #[.agg #[.slice A 3 c], .agg #[.slice A1 1 c1, .int .u64 0], .agg #[.slice A2 1 c2, .int .u64 0], .slice B 1 1] W fun e w' => (∃ x y, e = .returned (.tuple #[x, y, .bool true]) ∧ IsInts w' .u64 x [0, 0, 3] ∧ IsInts w' .u64 y [0, 3, 0]) ∧ Ext W w'))
  have HWG := Lib.hid (fun A c A2 c2 B W (h : NL W A 3 c F3) (h2 : VL W A2 1 c2 V2) (g : Ints W .u64 B 1 1 [3]) => (by have k := dweights_any A 3 c F3 A2 1 c2 0 V2 (by decide) B 1 1 [3] W h h2 g; rw [e_heavy] at k; exact k : Calls Try.prog 10 #[.agg #[.slice A 3 c], .agg #[.slice A2 1 c2, .int .u64 0], .slice B 1 1] W fun e w' => (∃ x, e = .returned (.tuple #[x, .bool true]) ∧ IsInts w' .u64 x [3, 0, 3]) ∧ Ext W w'))
  have HR := Lib.hid (fun A c B W (l : List Int) (h : Ints W .u64 A 3 c l) (g : Ints W .u64 B 3 3 l) => (by have k := rsame64_any A 3 c B 3 3 l l W h g; rw [decide_eq_true rfl] at k; exact k : Calls Try.prog 14 #[.slice A 3 c, .slice B 3 3] W fun e w' => e = .returned (.bool true) ∧ Ext W w'))
  go_enter Try.func7, Try.ntmps7
  go_wp2_with fail
  refine (HN.out _).mono ?_
  rintro e w1 ⟨⟨A0, c0, rfl, h0⟩, hx1⟩
  have k1 : Ext w w1 := hx1
  go_wp2_with fail
  refine (HP1.out _ _ _ (h0.ext ((by repeat (first | assumption | exact Ext.refl _ | refine Ext.alloc ?_ _ | refine Ext.drew ?_ | refine Ext.drewN ?_ _ | refine Ext.setCell ?_ (by first | (simp; done) | omega | (simp; omega)) _ | refine Ext.trans (by assumption) ?_))))).mono ?_
  rintro e w2 ⟨⟨A1, c1, rfl, h1⟩, hx2⟩
  have k2 : Ext w1 w2 := Ext.trans ((by repeat (first | assumption | exact Ext.refl _ | refine Ext.alloc ?_ _ | refine Ext.drew ?_ | refine Ext.drewN ?_ _ | refine Ext.setCell ?_ (by first | (simp; done) | omega | (simp; omega)) _ | refine Ext.trans (by assumption) ?_))) hx2
  go_wp2_with fail
  refine (HP2.out _ _ _ (h1.ext ((by repeat (first | assumption | exact Ext.refl _ | refine Ext.alloc ?_ _ | refine Ext.drew ?_ | refine Ext.drewN ?_ _ | refine Ext.setCell ?_ (by first | (simp; done) | omega | (simp; omega)) _ | refine Ext.trans (by assumption) ?_))))).mono ?_
  rintro e w3 ⟨⟨A2, c2, rfl, h2⟩, hx3⟩
  have k3 : Ext w2 w3 := Ext.trans ((by repeat (first | assumption | exact Ext.refl _ | refine Ext.alloc ?_ _ | refine Ext.drew ?_ | refine Ext.drewN ?_ _ | refine Ext.setCell ?_ (by first | (simp; done) | omega | (simp; omega)) _ | refine Ext.trans (by assumption) ?_))) hx3
  obtain ⟨b0, b1, bf⟩ := hx3.box2 (B := w2.heap.size) (a := .slice A1 1 c1) (b := .int .u64 0) (by first | (simp; done) | (simp (maxDischargeDepth := 7) [go_sem]; done)) (by first | (simp; done) | (simp (maxDischargeDepth := 7) [go_sem]; done)) (by first | (simp; done) | (simp (maxDischargeDepth := 7) [go_sem]; done))
  have bl := lt_of_cell b0
  clear HN HP1 HP2
  go_upto_region 4 with fail
  have kd : Ext w3 (w3.alloc (.cells #[.slice A2 1 c2, .int .u64 0] 28)) := (Ext.refl _).alloc _
  have d0 : (w3.alloc (.cells #[.slice A2 1 c2, .int .u64 0] 28)).cell? ⟨w3.heap.size, 0, none⟩ = some (.slice A2 1 c2) := by simp
  have d1 : (w3.alloc (.cells #[.slice A2 1 c2, .int .u64 0] 28)).cell? ⟨w3.heap.size, 1, none⟩ = some (.int .u64 0) := by simp
  replace b0 := kd.cell b0
  replace b1 := kd.cell b1
  have k4 : Ext w _ := k1.trans (k2.trans (k3.trans kd))
  have H1 := Lib.hid (h1.ext (k3.trans kd))
  have H2 := Lib.hid (h2.ext kd)
  clear h0 h1 h2 hx1 hx2 hx3 k1 k2 k3 kd bf bl
  generalize hW4 : (w3.alloc (.cells #[.slice A2 1 c2, .int .u64 0] 28)) = w4 at *
  clear hW4
  generalize w2.heap.size = Xa at *
  generalize w3.heap.size = Xb at *
  have CA := Lib.hid (And.intro b0 b1)
  have CB := Lib.hid (And.intro d0 d1)
  go_cut [9, 10, 11] (fun p q z wx => z = .bool true ∧ IsInts wx .u64 p [0, 0, 3] ∧ IsInts wx .u64 q [0, 3, 0] ∧ Ext w4 wx)
  case first =>
    rename_i hJ hMet
    clear b0 b1 d0 d1 HWG HR
    refine wp_region_noPanic ?_
    refine wp_region_held_drew (S := fun w' => Ext w4 w') (by kernel_rfl) ((Ext.refl _).drew) (fun hHeld => ?_)
    change wpAnyH _ _ _ _ _ 12 (Array.replicate 12 false) _ _
    refine wpAnyH_take (i := 1) (v := .agg #[.slice A1 1 c1, .int .u64 0]) rfl (by kernel_rfl) (by kernel_rfl) (by kernel_rfl) (fun _ _ _ h => h) (Or.inl ⟨by rfl, fun _ hSw => by obtain ⟨c0, c1⟩ := CA.out; have d0 := Ext.cell hSw c0; have d1 := Ext.cell hSw c1; first | (go_simp; done) | (go_simp; with_reducible rfl)⟩) hHeld ?_
    (try simp only [List.getElem_toArray, List.getElem_cons_zero, List.getElem_cons_succ, Act.put, List.setIfInBounds_toArray, List.set_cons_zero, List.set_cons_succ])
    refine wpAnyH_take (i := 2) (v := .agg #[.slice A2 1 c2, .int .u64 0]) rfl (by kernel_rfl) (by kernel_rfl) (by kernel_rfl) (fun _ _ _ h => h) (Or.inl ⟨by rfl, fun _ hSw => by obtain ⟨c0, c1⟩ := CB.out; have d0 := Ext.cell hSw c0; have d1 := Ext.cell hSw c1; first | (go_simp; done) | (go_simp; with_reducible rfl)⟩) hHeld ?_
    (try simp only [List.getElem_toArray, List.getElem_cons_zero, List.getElem_cons_succ, Act.put, List.setIfInBounds_toArray, List.set_cons_zero, List.set_cons_succ])
    refine wpAnyH_ready (rs := [0, 3]) (by kernel_rfl) (by simp) ?_
    refine AllReadyH.cons rfl (fun K hK => ?_) ?_
    · go_simp
      refine (HFK.out _).mono ?_
      rintro e wa ⟨⟨A, c, rfl, ha⟩, hxa⟩
      have ka : Ext w4 wa := Ext.trans ((by repeat (first | assumption | exact Ext.refl _ | refine Ext.alloc ?_ _ | refine Ext.drew ?_ | refine Ext.drewN ?_ _ | refine Ext.setCell ?_ (by first | (simp; done) | omega | (simp; omega)) _ | refine Ext.trans (by assumption) ?_))) hxa
      refine hK.out _ _ ka (fun hHeld => ?_)
      clear hK K
      (try simp only [List.getElem_toArray, List.getElem_cons_zero, List.getElem_cons_succ, Act.put, List.setIfInBounds_toArray, List.set_cons_zero, List.set_cons_succ])
      refine wpAnyH_ready (rs := [3]) (by kernel_rfl) (by simp) ?_
      refine AllReadyH.cons rfl (fun K hK => ?_) ?_
      · go_simp
        refine hK.out _ _ (ka.alloc _) (fun hHeld => ?_)
        clear hK K
        (try simp only [List.getElem_toArray, List.getElem_cons_zero, List.getElem_cons_succ, Act.put, List.setIfInBounds_toArray, List.set_cons_zero, List.set_cons_succ])
        refine wpAnyH_ready (rs := [4]) (by kernel_rfl) (by simp) ?_
        refine AllReadyH.cons rfl (fun K hK => ?_) ?_
        · go_simp
          refine (HO.out A c A1 c1 A2 c2 _ _ (ha.ext ((Ext.refl _).alloc _)) (H1.out.ext (ka.alloc _)) (H2.out.ext (ka.alloc _)) (ints_at' (e := 26) [3] (by decide) (by decide) (by simp))).mono ?_
          rintro e wb ⟨⟨x, y, rfl, hx, hy⟩, hxb⟩
          have kb2 : Ext w4 wb := Ext.trans (ka.alloc _) hxb
          refine hK.out _ _ kb2 (fun hHeld => ?_)
          clear hK K
          (try simp only [List.getElem_toArray, List.getElem_cons_zero, List.getElem_cons_succ, Act.put, List.setIfInBounds_toArray, List.set_cons_zero, List.set_cons_succ])
          refine wpAnyH_take (i := 5) (v := Value.tuple #[x, y, .bool true]) rfl (by kernel_rfl) (by kernel_rfl) (by kernel_rfl) (fun _ _ _ h => h) (Or.inl ⟨by rfl, fun _ hSw => by first | (go_simp; done) | (go_simp; with_reducible rfl)⟩) hHeld ?_
          (try simp only [List.getElem_toArray, List.getElem_cons_zero, List.getElem_cons_succ, Act.put, List.setIfInBounds_toArray, List.set_cons_zero, List.set_cons_succ])
          refine wpAnyH_take (i := 6) (v := x) rfl (by kernel_rfl) (by kernel_rfl) (by kernel_rfl) (fun _ _ _ h => h) (Or.inl ⟨by rfl, fun _ hSw => by first | (go_simp; done) | (go_simp; with_reducible rfl)⟩) hHeld ?_
          (try simp only [List.getElem_toArray, List.getElem_cons_zero, List.getElem_cons_succ, Act.put, List.setIfInBounds_toArray, List.set_cons_zero, List.set_cons_succ])
          refine wpAnyH_take (i := 7) (v := y) rfl (by kernel_rfl) (by kernel_rfl) (by kernel_rfl) (fun _ _ _ h => h) (Or.inl ⟨by rfl, fun _ hSw => by first | (go_simp; done) | (go_simp; with_reducible rfl)⟩) hHeld ?_
          (try simp only [List.getElem_toArray, List.getElem_cons_zero, List.getElem_cons_succ, Act.put, List.setIfInBounds_toArray, List.set_cons_zero, List.set_cons_succ])
          refine wpAnyH_take (i := 8) (v := Value.bool true) rfl (by kernel_rfl) (by kernel_rfl) (by kernel_rfl) (fun _ _ _ h => h) (Or.inl ⟨by rfl, fun _ hSw => by first | (go_simp; done) | (go_simp; with_reducible rfl)⟩) hHeld ?_
          (try simp only [List.getElem_toArray, List.getElem_cons_zero, List.getElem_cons_succ, Act.put, List.setIfInBounds_toArray, List.set_cons_zero, List.set_cons_succ])
          refine wpAnyH_take (i := 9) (v := x) rfl (by kernel_rfl) (by kernel_rfl) (by kernel_rfl) (fun _ _ _ h => h) (Or.inl ⟨by rfl, fun _ hSw => by first | (go_simp; done) | (go_simp; with_reducible rfl)⟩) hHeld ?_
          (try simp only [List.getElem_toArray, List.getElem_cons_zero, List.getElem_cons_succ, Act.put, List.setIfInBounds_toArray, List.set_cons_zero, List.set_cons_succ])
          refine wpAnyH_take (i := 10) (v := y) rfl (by kernel_rfl) (by kernel_rfl) (by kernel_rfl) (fun _ _ _ h => h) (Or.inl ⟨by rfl, fun _ hSw => by first | (go_simp; done) | (go_simp; with_reducible rfl)⟩) hHeld ?_
          (try simp only [List.getElem_toArray, List.getElem_cons_zero, List.getElem_cons_succ, Act.put, List.setIfInBounds_toArray, List.set_cons_zero, List.set_cons_succ])
          refine wpAnyH_take (i := 11) (v := Value.bool true) rfl (by kernel_rfl) (by kernel_rfl) (by kernel_rfl) (fun _ _ _ h => h) (Or.inl ⟨by rfl, fun _ hSw => by first | (go_simp; done) | (go_simp; with_reducible rfl)⟩) hHeld ?_
          (try simp only [List.getElem_toArray, List.getElem_cons_zero, List.getElem_cons_succ, Act.put, List.setIfInBounds_toArray, List.set_cons_zero, List.set_cons_succ])
          refine wpAnyH_done (by kernel_rfl) ?_ _
          refine NoPanic.normal ?_
          refine hMet _ _ ?_
          go_meet
          exact ⟨rfl, hx, hy, kb2⟩
        · exact AllReadyH.nil
      · exact AllReadyH.nil
    refine AllReadyH.cons rfl (fun K hK => ?_) ?_
    · go_simp
      have kb : Ext w4 (w4.drew.alloc (.cells #[.int .u64 3] 26)) := ((Ext.refl _).drew).alloc _
      refine hK.out _ _ kb (fun hHeld => ?_)
      clear hK K
      (try simp only [List.getElem_toArray, List.getElem_cons_zero, List.getElem_cons_succ, Act.put, List.setIfInBounds_toArray, List.set_cons_zero, List.set_cons_succ])
      refine wpAnyH_ready (rs := [0]) (by kernel_rfl) (by simp) ?_
      refine AllReadyH.cons rfl (fun K hK => ?_) ?_
      · go_simp
        refine (HFK.out _).mono ?_
        rintro e wa ⟨⟨A, c, rfl, ha⟩, hxa⟩
        have ka : Ext w4 wa := Ext.trans kb hxa
        refine hK.out _ _ ka (fun hHeld => ?_)
        clear hK K
        (try simp only [List.getElem_toArray, List.getElem_cons_zero, List.getElem_cons_succ, Act.put, List.setIfInBounds_toArray, List.set_cons_zero, List.set_cons_succ])
        refine wpAnyH_ready (rs := [4]) (by kernel_rfl) (by simp) ?_
        refine AllReadyH.cons rfl (fun K hK => ?_) ?_
        · go_simp
          refine (HO.out A c A1 c1 A2 c2 _ _ ha (H1.out.ext ka) (H2.out.ext ka) ((ints_at' (w := w4.drew) (e := 26) [3] (by decide) (by decide) (by simp)).ext hxa)).mono ?_
          rintro e wb ⟨⟨x, y, rfl, hx, hy⟩, hxb⟩
          have kb2 : Ext w4 wb := Ext.trans ka hxb
          refine hK.out _ _ kb2 (fun hHeld => ?_)
          clear hK K
          (try simp only [List.getElem_toArray, List.getElem_cons_zero, List.getElem_cons_succ, Act.put, List.setIfInBounds_toArray, List.set_cons_zero, List.set_cons_succ])
          refine wpAnyH_take (i := 5) (v := Value.tuple #[x, y, .bool true]) rfl (by kernel_rfl) (by kernel_rfl) (by kernel_rfl) (fun _ _ _ h => h) (Or.inl ⟨by rfl, fun _ hSw => by first | (go_simp; done) | (go_simp; with_reducible rfl)⟩) hHeld ?_
          (try simp only [List.getElem_toArray, List.getElem_cons_zero, List.getElem_cons_succ, Act.put, List.setIfInBounds_toArray, List.set_cons_zero, List.set_cons_succ])
          refine wpAnyH_take (i := 6) (v := x) rfl (by kernel_rfl) (by kernel_rfl) (by kernel_rfl) (fun _ _ _ h => h) (Or.inl ⟨by rfl, fun _ hSw => by first | (go_simp; done) | (go_simp; with_reducible rfl)⟩) hHeld ?_
          (try simp only [List.getElem_toArray, List.getElem_cons_zero, List.getElem_cons_succ, Act.put, List.setIfInBounds_toArray, List.set_cons_zero, List.set_cons_succ])
          refine wpAnyH_take (i := 7) (v := y) rfl (by kernel_rfl) (by kernel_rfl) (by kernel_rfl) (fun _ _ _ h => h) (Or.inl ⟨by rfl, fun _ hSw => by first | (go_simp; done) | (go_simp; with_reducible rfl)⟩) hHeld ?_
          (try simp only [List.getElem_toArray, List.getElem_cons_zero, List.getElem_cons_succ, Act.put, List.setIfInBounds_toArray, List.set_cons_zero, List.set_cons_succ])
          refine wpAnyH_take (i := 8) (v := Value.bool true) rfl (by kernel_rfl) (by kernel_rfl) (by kernel_rfl) (fun _ _ _ h => h) (Or.inl ⟨by rfl, fun _ hSw => by first | (go_simp; done) | (go_simp; with_reducible rfl)⟩) hHeld ?_
          (try simp only [List.getElem_toArray, List.getElem_cons_zero, List.getElem_cons_succ, Act.put, List.setIfInBounds_toArray, List.set_cons_zero, List.set_cons_succ])
          refine wpAnyH_take (i := 9) (v := x) rfl (by kernel_rfl) (by kernel_rfl) (by kernel_rfl) (fun _ _ _ h => h) (Or.inl ⟨by rfl, fun _ hSw => by first | (go_simp; done) | (go_simp; with_reducible rfl)⟩) hHeld ?_
          (try simp only [List.getElem_toArray, List.getElem_cons_zero, List.getElem_cons_succ, Act.put, List.setIfInBounds_toArray, List.set_cons_zero, List.set_cons_succ])
          refine wpAnyH_take (i := 10) (v := y) rfl (by kernel_rfl) (by kernel_rfl) (by kernel_rfl) (fun _ _ _ h => h) (Or.inl ⟨by rfl, fun _ hSw => by first | (go_simp; done) | (go_simp; with_reducible rfl)⟩) hHeld ?_
          (try simp only [List.getElem_toArray, List.getElem_cons_zero, List.getElem_cons_succ, Act.put, List.setIfInBounds_toArray, List.set_cons_zero, List.set_cons_succ])
          refine wpAnyH_take (i := 11) (v := Value.bool true) rfl (by kernel_rfl) (by kernel_rfl) (by kernel_rfl) (fun _ _ _ h => h) (Or.inl ⟨by rfl, fun _ hSw => by first | (go_simp; done) | (go_simp; with_reducible rfl)⟩) hHeld ?_
          (try simp only [List.getElem_toArray, List.getElem_cons_zero, List.getElem_cons_succ, Act.put, List.setIfInBounds_toArray, List.set_cons_zero, List.set_cons_succ])
          refine wpAnyH_done (by kernel_rfl) ?_ _
          refine NoPanic.normal ?_
          refine hMet _ _ ?_
          go_meet
          exact ⟨rfl, hx, hy, kb2⟩
        · exact AllReadyH.nil
      · exact AllReadyH.nil
    · exact AllReadyH.nil
  case rest =>
    obtain ⟨rfl, ⟨PA, pn, pc, rfl, hp⟩, ⟨QA, qn, qc, rfl, hq⟩, hxc⟩ := hcut
    obtain rfl : 3 = pn := hp.len
    obtain rfl : 3 = qn := hq.len
    replace k4 := k4.trans hxc
    replace b0 := hxc.cell b0
    replace b1 := hxc.cell b1
    replace d0 := hxc.cell d0
    replace d1 := hxc.cell d1
    have HP := Lib.hid (fun W (k : Ext wc W) => hp.ext k)
    have HQ := Lib.hid (fun W (k : Ext wc W) => hq.ext k)
    have HV := Lib.hid (H2.out.ext hxc)
    clear hp hq H1 H2 HO hxc CA CB
    generalize hw5 : wc = w5 at *
    clear hw5
    go_upto_region 5 with fail
    have CB := Lib.hid (And.intro d0 d1)
    go_cut [12, 13] (fun p z wx => z = .bool true ∧ IsInts wx .u64 p [3, 0, 3] ∧ Ext w5 wx)
    case first =>
      rename_i hJ hMet
      clear b0 b1 d0 d1 HR
      refine wp_region_noPanic ?_
      refine wp_region_held_drew (S := fun w' => Ext w5 w') (by kernel_rfl) ((Ext.refl _).drew) (fun hHeld => ?_)
      change wpAnyH _ _ _ _ _ 9 (Array.replicate 9 false) _ _
      refine wpAnyH_take (i := 1) (v := .agg #[.slice A2 1 c2, .int .u64 0]) rfl (by kernel_rfl) (by kernel_rfl) (by kernel_rfl) (fun _ _ _ h => h) (Or.inl ⟨by rfl, fun _ hSw => by obtain ⟨c0, c1⟩ := CB.out; have d0 := Ext.cell hSw c0; have d1 := Ext.cell hSw c1; first | (go_simp; done) | (go_simp; with_reducible rfl)⟩) hHeld ?_
      (try simp only [List.getElem_toArray, List.getElem_cons_zero, List.getElem_cons_succ, Act.put, List.setIfInBounds_toArray, List.set_cons_zero, List.set_cons_succ])
      refine wpAnyH_ready (rs := [0, 2]) (by kernel_rfl) (by simp) ?_
      refine AllReadyH.cons rfl (fun K hK => ?_) ?_
      · go_simp
        refine (HFK.out _).mono ?_
        rintro e wa ⟨⟨A, c, rfl, ha⟩, hxa⟩
        have ka : Ext w5 wa := Ext.trans ((by repeat (first | assumption | exact Ext.refl _ | refine Ext.alloc ?_ _ | refine Ext.drew ?_ | refine Ext.drewN ?_ _ | refine Ext.setCell ?_ (by first | (simp; done) | omega | (simp; omega)) _ | refine Ext.trans (by assumption) ?_))) hxa
        refine hK.out _ _ ka (fun hHeld => ?_)
        clear hK K
        (try simp only [List.getElem_toArray, List.getElem_cons_zero, List.getElem_cons_succ, Act.put, List.setIfInBounds_toArray, List.set_cons_zero, List.set_cons_succ])
        refine wpAnyH_ready (rs := [2]) (by kernel_rfl) (by simp) ?_
        refine AllReadyH.cons rfl (fun K hK => ?_) ?_
        · go_simp
          refine hK.out _ _ (ka.alloc _) (fun hHeld => ?_)
          clear hK K
          (try simp only [List.getElem_toArray, List.getElem_cons_zero, List.getElem_cons_succ, Act.put, List.setIfInBounds_toArray, List.set_cons_zero, List.set_cons_succ])
          refine wpAnyH_ready (rs := [3]) (by kernel_rfl) (by simp) ?_
          refine AllReadyH.cons rfl (fun K hK => ?_) ?_
          · go_simp
            refine (HWG.out A c A2 c2 _ _ (ha.ext ((Ext.refl _).alloc _)) (HV.out.ext (ka.alloc _)) (ints_at' (e := 26) [3] (by decide) (by decide) (by simp))).mono ?_
            rintro e wb ⟨⟨x, rfl, hx⟩, hxb⟩
            have kb2 : Ext w5 wb := Ext.trans (ka.alloc _) hxb
            refine hK.out _ _ kb2 (fun hHeld => ?_)
            clear hK K
            (try simp only [List.getElem_toArray, List.getElem_cons_zero, List.getElem_cons_succ, Act.put, List.setIfInBounds_toArray, List.set_cons_zero, List.set_cons_succ])
            refine wpAnyH_take (i := 4) (v := Value.tuple #[x, .bool true]) rfl (by kernel_rfl) (by kernel_rfl) (by kernel_rfl) (fun _ _ _ h => h) (Or.inl ⟨by rfl, fun _ hSw => by first | (go_simp; done) | (go_simp; with_reducible rfl)⟩) hHeld ?_
            (try simp only [List.getElem_toArray, List.getElem_cons_zero, List.getElem_cons_succ, Act.put, List.setIfInBounds_toArray, List.set_cons_zero, List.set_cons_succ])
            refine wpAnyH_take (i := 5) (v := x) rfl (by kernel_rfl) (by kernel_rfl) (by kernel_rfl) (fun _ _ _ h => h) (Or.inl ⟨by rfl, fun _ hSw => by first | (go_simp; done) | (go_simp; with_reducible rfl)⟩) hHeld ?_
            (try simp only [List.getElem_toArray, List.getElem_cons_zero, List.getElem_cons_succ, Act.put, List.setIfInBounds_toArray, List.set_cons_zero, List.set_cons_succ])
            refine wpAnyH_take (i := 6) (v := Value.bool true) rfl (by kernel_rfl) (by kernel_rfl) (by kernel_rfl) (fun _ _ _ h => h) (Or.inl ⟨by rfl, fun _ hSw => by first | (go_simp; done) | (go_simp; with_reducible rfl)⟩) hHeld ?_
            (try simp only [List.getElem_toArray, List.getElem_cons_zero, List.getElem_cons_succ, Act.put, List.setIfInBounds_toArray, List.set_cons_zero, List.set_cons_succ])
            refine wpAnyH_take (i := 7) (v := x) rfl (by kernel_rfl) (by kernel_rfl) (by kernel_rfl) (fun _ _ _ h => h) (Or.inl ⟨by rfl, fun _ hSw => by first | (go_simp; done) | (go_simp; with_reducible rfl)⟩) hHeld ?_
            (try simp only [List.getElem_toArray, List.getElem_cons_zero, List.getElem_cons_succ, Act.put, List.setIfInBounds_toArray, List.set_cons_zero, List.set_cons_succ])
            refine wpAnyH_take (i := 8) (v := Value.bool true) rfl (by kernel_rfl) (by kernel_rfl) (by kernel_rfl) (fun _ _ _ h => h) (Or.inl ⟨by rfl, fun _ hSw => by first | (go_simp; done) | (go_simp; with_reducible rfl)⟩) hHeld ?_
            (try simp only [List.getElem_toArray, List.getElem_cons_zero, List.getElem_cons_succ, Act.put, List.setIfInBounds_toArray, List.set_cons_zero, List.set_cons_succ])
            refine wpAnyH_done (by kernel_rfl) ?_ _
            refine NoPanic.normal ?_
            refine hMet _ _ ?_
            go_meet
            exact ⟨rfl, hx, kb2⟩
          · exact AllReadyH.nil
        · exact AllReadyH.nil
      refine AllReadyH.cons rfl (fun K hK => ?_) ?_
      · go_simp
        have kb : Ext w5 (w5.drew.alloc (.cells #[.int .u64 3] 26)) := ((Ext.refl _).drew).alloc _
        refine hK.out _ _ kb (fun hHeld => ?_)
        clear hK K
        (try simp only [List.getElem_toArray, List.getElem_cons_zero, List.getElem_cons_succ, Act.put, List.setIfInBounds_toArray, List.set_cons_zero, List.set_cons_succ])
        refine wpAnyH_ready (rs := [0]) (by kernel_rfl) (by simp) ?_
        refine AllReadyH.cons rfl (fun K hK => ?_) ?_
        · go_simp
          refine (HFK.out _).mono ?_
          rintro e wa ⟨⟨A, c, rfl, ha⟩, hxa⟩
          have ka : Ext w5 wa := Ext.trans kb hxa
          refine hK.out _ _ ka (fun hHeld => ?_)
          clear hK K
          (try simp only [List.getElem_toArray, List.getElem_cons_zero, List.getElem_cons_succ, Act.put, List.setIfInBounds_toArray, List.set_cons_zero, List.set_cons_succ])
          refine wpAnyH_ready (rs := [3]) (by kernel_rfl) (by simp) ?_
          refine AllReadyH.cons rfl (fun K hK => ?_) ?_
          · go_simp
            refine (HWG.out A c A2 c2 _ _ ha (HV.out.ext ka) ((ints_at' (w := w5.drew) (e := 26) [3] (by decide) (by decide) (by simp)).ext hxa)).mono ?_
            rintro e wb ⟨⟨x, rfl, hx⟩, hxb⟩
            have kb2 : Ext w5 wb := Ext.trans ka hxb
            refine hK.out _ _ kb2 (fun hHeld => ?_)
            clear hK K
            (try simp only [List.getElem_toArray, List.getElem_cons_zero, List.getElem_cons_succ, Act.put, List.setIfInBounds_toArray, List.set_cons_zero, List.set_cons_succ])
            refine wpAnyH_take (i := 4) (v := Value.tuple #[x, .bool true]) rfl (by kernel_rfl) (by kernel_rfl) (by kernel_rfl) (fun _ _ _ h => h) (Or.inl ⟨by rfl, fun _ hSw => by first | (go_simp; done) | (go_simp; with_reducible rfl)⟩) hHeld ?_
            (try simp only [List.getElem_toArray, List.getElem_cons_zero, List.getElem_cons_succ, Act.put, List.setIfInBounds_toArray, List.set_cons_zero, List.set_cons_succ])
            refine wpAnyH_take (i := 5) (v := x) rfl (by kernel_rfl) (by kernel_rfl) (by kernel_rfl) (fun _ _ _ h => h) (Or.inl ⟨by rfl, fun _ hSw => by first | (go_simp; done) | (go_simp; with_reducible rfl)⟩) hHeld ?_
            (try simp only [List.getElem_toArray, List.getElem_cons_zero, List.getElem_cons_succ, Act.put, List.setIfInBounds_toArray, List.set_cons_zero, List.set_cons_succ])
            refine wpAnyH_take (i := 6) (v := Value.bool true) rfl (by kernel_rfl) (by kernel_rfl) (by kernel_rfl) (fun _ _ _ h => h) (Or.inl ⟨by rfl, fun _ hSw => by first | (go_simp; done) | (go_simp; with_reducible rfl)⟩) hHeld ?_
            (try simp only [List.getElem_toArray, List.getElem_cons_zero, List.getElem_cons_succ, Act.put, List.setIfInBounds_toArray, List.set_cons_zero, List.set_cons_succ])
            refine wpAnyH_take (i := 7) (v := x) rfl (by kernel_rfl) (by kernel_rfl) (by kernel_rfl) (fun _ _ _ h => h) (Or.inl ⟨by rfl, fun _ hSw => by first | (go_simp; done) | (go_simp; with_reducible rfl)⟩) hHeld ?_
            (try simp only [List.getElem_toArray, List.getElem_cons_zero, List.getElem_cons_succ, Act.put, List.setIfInBounds_toArray, List.set_cons_zero, List.set_cons_succ])
            refine wpAnyH_take (i := 8) (v := Value.bool true) rfl (by kernel_rfl) (by kernel_rfl) (by kernel_rfl) (fun _ _ _ h => h) (Or.inl ⟨by rfl, fun _ hSw => by first | (go_simp; done) | (go_simp; with_reducible rfl)⟩) hHeld ?_
            (try simp only [List.getElem_toArray, List.getElem_cons_zero, List.getElem_cons_succ, Act.put, List.setIfInBounds_toArray, List.set_cons_zero, List.set_cons_succ])
            refine wpAnyH_done (by kernel_rfl) ?_ _
            refine NoPanic.normal ?_
            refine hMet _ _ ?_
            go_meet
            exact ⟨rfl, hx, kb2⟩
          · exact AllReadyH.nil
        · exact AllReadyH.nil
      · exact AllReadyH.nil
    case rest =>
      obtain ⟨rfl, ⟨RA, rn, rc, rfl, hr⟩, hxc⟩ := hcut
      obtain rfl : 3 = rn := hr.len
      replace k4 := k4.trans hxc
      have HP2 := Lib.hid (HP.out _ hxc)
      have HQ2 := Lib.hid (HQ.out _ hxc)
      have HR2 := Lib.hid hr
      clear HP HQ hr HWG hxc HFK HV CB
      generalize hw6 : wc = w6 at *
      clear hw6
      go_wp2_with fail
      refine (HR.out _ _ _ _ [0, 0, 3] (HP2.out.ext ((by repeat (first | assumption | exact Ext.refl _ | refine Ext.alloc ?_ _ | refine Ext.drew ?_ | refine Ext.drewN ?_ _ | refine Ext.setCell ?_ (by first | (simp; done) | omega | (simp; omega)) _ | refine Ext.trans (by assumption) ?_)))) (ints_at' [0, 0, 3] (by decide) (by decide) (by simp))).mono ?_
      rintro e w7 ⟨rfl, hx7⟩
      have k7 : Ext w6 w7 := Ext.trans ((by repeat (first | assumption | exact Ext.refl _ | refine Ext.alloc ?_ _ | refine Ext.drew ?_ | refine Ext.drewN ?_ _ | refine Ext.setCell ?_ (by first | (simp; done) | omega | (simp; omega)) _ | refine Ext.trans (by assumption) ?_))) hx7
      go_wp2_with fail
      refine (HR.out _ _ _ _ [0, 3, 0] (HQ2.out.ext (Ext.trans k7 ((by repeat (first | assumption | exact Ext.refl _ | refine Ext.alloc ?_ _ | refine Ext.drew ?_ | refine Ext.drewN ?_ _ | refine Ext.setCell ?_ (by first | (simp; done) | omega | (simp; omega)) _ | refine Ext.trans (by assumption) ?_))))) (ints_at' [0, 3, 0] (by decide) (by decide) (by simp))).mono ?_
      rintro e w8 ⟨rfl, hx8⟩
      have k8 : Ext w7 w8 := Ext.trans ((by repeat (first | assumption | exact Ext.refl _ | refine Ext.alloc ?_ _ | refine Ext.drew ?_ | refine Ext.drewN ?_ _ | refine Ext.setCell ?_ (by first | (simp; done) | omega | (simp; omega)) _ | refine Ext.trans (by assumption) ?_))) hx8
      go_wp2_with fail
      refine (HR.out _ _ _ _ [3, 0, 3] (HR2.out.ext (Ext.trans (k7.trans k8) ((by repeat (first | assumption | exact Ext.refl _ | refine Ext.alloc ?_ _ | refine Ext.drew ?_ | refine Ext.drewN ?_ _ | refine Ext.setCell ?_ (by first | (simp; done) | omega | (simp; omega)) _ | refine Ext.trans (by assumption) ?_))))) (ints_at' [3, 0, 3] (by decide) (by decide) (by simp))).mono ?_
      rintro e w9 ⟨rfl, hx9⟩
      have k9 : Ext w8 w9 := Ext.trans ((by repeat (first | assumption | exact Ext.refl _ | refine Ext.alloc ?_ _ | refine Ext.drew ?_ | refine Ext.drewN ?_ _ | refine Ext.setCell ?_ (by first | (simp; done) | omega | (simp; omega)) _ | refine Ext.trans (by assumption) ?_))) hx9
      go_wp2
      go_ret
      exact ⟨rfl, k4.trans (k7.trans (k8.trans k9))⟩
end Go.Proofs.Ytjhhfininnlkfaa
