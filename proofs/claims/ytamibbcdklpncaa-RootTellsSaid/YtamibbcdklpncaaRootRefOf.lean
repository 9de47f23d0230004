/- The document's Of. -/
import Derived.Test.YtamibbcdklpncaaRootRef
import Derived.Test.YtamibbcdklpncaaRootOf
import Derived.Test.YtamibbcdklpncaaRootArms
namespace Go.Proofs.Ytamibbcdklpncaa
open Go.RowKit Go.WideShapes Go.ChangeShapes
set_option linter.unusedVariables false
set_option linter.unusedSimpArgs false


/-- The world while a text is read: two roots. -/
structure OfR (w wr : World) (r : List Int) : Prop where
  ext : Ext w wr
  t0 : wr.there w.heap.size 0 32
  arr : wr.rangeAt (w.heap.size + 1) 0 (rootC r)
  fz : ∀ o, wr.frozen? ⟨w.heap.size + 1, o, none⟩ = false
theorem OfR.cell {w wr : World} {r : List Int} (h : OfR w wr r) (hr : r.length = 32) {q : Nat} (hq : q < 32) : wr.cell? ⟨w.heap.size + 1, q, none⟩ = some (.int .u8 (nth r q)) := by
  have := h.arr q _ (nth_map (k := .u8) (by omega))
  simpa using this
theorem OfR.put {w wr : World} {r : List Int} (h : OfR w wr r) (hr : r.length = 32) {q : Nat} (hq : q < 32) (v : Int) : OfR w (wr.setCell ⟨w.heap.size + 1, q, none⟩ (.int .u8 v)) (r.set q v) := by
  have hc := h.cell hr hq
  refine ⟨h.ext.setCell (by simp) _, fun j hj => ?_, fun j u hu => ?_, fun o => by rw [World.frozen?_setCell]; exact h.fz o⟩
  · rw [World.cell?_setCell_far wr ⟨w.heap.size + 1, q, none⟩ ⟨w.heap.size, 0 + j, none⟩ _ (by show w.heap.size + 1 ≠ w.heap.size; omega), World.frozen?_setCell]
    exact h.t0 j hj
  · by_cases e : j = q
    · subst e
      have e1 : u = .int .u8 v := by
        unfold rootC at hu
        simp [hr, hq] at hu
        exact hu.symm
      rw [e1, Nat.zero_add]
      exact World.cell?_setCell_same' _ _ _ (by rw [hc]; rfl)
    · rw [World.cell?_setCell_other (h := show (⟨w.heap.size + 1, q, none⟩ : Addr) ≠ ⟨w.heap.size + 1, 0 + j, none⟩ from fun e' => by injection e' with _ e1; omega)]
      refine h.arr j u ?_
      unfold rootC at hu ⊢
      simp [List.getElem?_set, Ne.symm e] at hu
      simpa using hu
theorem arr_set2 {l : List UInt8} {k : Nat} (hk : k < 32) : (Root.arrV l (2 * k)).set k (16 * Root.vat l (2 * k) + Root.vat l (2 * k + 1)) = Root.arrV l (2 * (k + 1)) := by
  refine nth_ext (by simp [Root.arr_len]) fun j hj => ?_
  have hj' : j < 32 := by simpa [Root.arr_len] using hj
  rw [Root.nth_arr _ _ _ hj']
  by_cases e : j = k
  · subst e
    have e1 : Root.cellV l (2 * (j + 1)) j = 16 * Root.vat l (2 * j) + Root.vat l (2 * j + 1) := by unfold Root.cellV; rw [if_pos (by omega)]
    rw [e1]
    unfold nth
    simp [Root.arr_len, hj']
  · have e1 : Root.cellV l (2 * (k + 1)) j = Root.cellV l (2 * k) j := by
      unfold Root.cellV
      repeat' split
      all_goals first | rfl | omega
    rw [e1, ← Root.nth_arr _ _ _ hj']
    unfold nth
    simp [Ne.symm e]
theorem str_byte {s : ByteArray} {k : Nat} (h : k < s.size) {z : Int} (hz : z = k) (W : World) : (Instr.index 9 (.string s) (.int .i64 z)).run Try.prog W = .ok (.int .u8 (s.data.toList.getD k 0).toNat) W := by
  subst hz
  rw [run_index_string _ _ _ _ _ Try.underlying9, dif_pos (by omega)]
  have e : s.data.toList.getD k 0 = s[k]'h := by simp [h]; rfl
  rw [e]
  rfl
section
variable {P : Program}
theorem at_index {ops : Array Oper} {rest : List Oper} {a : Act} {w : World} {Q : Exit → Act → World → Prop} {d : Option Tmp} {ty : TypeId} {x y : Operand} {t : TypeId} {p : String} {f : Array Edge} {g : Option (Nat × Bool)} (h : wpList P ops Q ({ dst := d, op := .index ty x y, type := t, pos := p, after := f, guard := g } :: rest) a w) : wpList P ops Q ({ dst := d, op := .index ty x y, type := t, pos := p, after := f, guard := g } :: rest) a w := h
end
set_option maxHeartbeats 600000 in
theorem refOf_any (s : ByteArray) (w : World) : Calls Try.prog 11 #[.string s] w fun e w' => e = .returned (.tuple #[.agg (rootC (Root.ofV s.data.toList).1).toArray, .bool (Root.ofV s.data.toList).2]) ∧ Ext w w' := by
  obtain ⟨z, ez⟩ : ∃ z, z = zeroR := ⟨_, rfl⟩
  have hz : RootOk z := by rw [ez]; exact zeroR_ok
  have hzn : ∀ W, Sem.run Try.prog (zeroValue 23) W = .ok (.agg (rootC z).toArray) W := by rw [ez]; exact zeroRootC
  obtain ⟨w0, hw0, x0, z0, T0, L1, F1⟩ := two_new w z hz
  have HZ := Lib.hid ez
  by_cases h64 : s.size = 64
  · have g1 : decide ((s.size : Int) = 64) = true := by rw [decide_eq_true_iff]; omega
    have HI := Lib.hid (fun (k : Nat) (h : k < s.size) (z : Int) (hz : z = k) W => str_byte h hz W)
    obtain ⟨l, hl⟩ : ∃ l, l = s.data.toList := ⟨_, rfl⟩
    have hll : l.length = 64 := by rw [hl]; simpa using h64
    rw [← hl] at HI ⊢
    clear hl
    have R0 : OfR w w0 (Root.arrV l (2 * 0)) := by
      rw [show 2 * 0 = 0 from rfl, Root.arr_zero, ← ez]
      exact ⟨x0, T0, L1, F1⟩
    obtain ⟨a, q, hV⟩ : ∃ a q, Root.ofV l = (a, q) := ⟨_, _, rfl⟩
    rw [hV]
    have HV := Lib.hid hV
    clear hV T0 L1 F1
    clear ez
    go_enter Try.func11, Try.ntmps11
    go_wp2
    go_loopw [5, 6, 7] (fun i _ _ wr => ∃ k : Nat, k ≤ 32 ∧ i = .int .i64 k ∧ Root.Good l (2 * k) ∧ OfR w wr (Root.arrV l (2 * k))) (fun i _ _ _ => 32 - (intOf i).toNat)
    case atStart => exact ⟨0, by omega, rfl, Root.good_zero l, R0⟩
    case round =>
      clear R0
      obtain ⟨k, hk, rfl, hg, O⟩ := hrel
      by_cases hlt : k < 32
      · have hi1 := fun W => HI.out (2 * k) (by omega) (2 * (k : Int)) (by omega) W
        have hi2 := fun W => HI.out (2 * k + 1) (by omega) (2 * (k : Int) + 1) (by omega) W
        have hv1 : ∀ W, Calls Try.prog 20 #[.int .u8 (l.getD (2 * k) 0).toNat] W fun e w' => e = .returned (.int .i64 (Root.vat l (2 * k))) ∧ w' = W := fun W => value_any _ W
        have hv2 : ∀ W, Calls Try.prog 20 #[.int .u8 (l.getD (2 * k + 1) 0).toNat] W fun e w' => e = .returned (.int .i64 (Root.vat l (2 * k + 1))) ∧ w' = W := fun W => value_any _ W
        have hb1 : Root.vat l (2 * k) = -1 ∨ (0 ≤ Root.vat l (2 * k) ∧ Root.vat l (2 * k) ≤ 15) := by
          rcases Root.val_cases (l.getD (2 * k) 0) with h | h
          · exact .inl h
          · exact .inr ⟨h.1, h.2.1⟩
        have hb2 : Root.vat l (2 * k + 1) = -1 ∨ (0 ≤ Root.vat l (2 * k + 1) ∧ Root.vat l (2 * k + 1) ≤ 15) := by
          rcases Root.val_cases (l.getD (2 * k + 1) 0) with h | h
          · exact .inl h
          · exact .inr ⟨h.1, h.2.1⟩
        have HF1 := Lib.hid (fun h => Root.fits_bad (l := l) (k := 2 * k) (by omega) h)
        have HF2 := Lib.hid (fun h => Root.fits_bad (l := l) (k := 2 * k + 1) (by omega) h)
        have HG := Lib.hid (fun h1 h2 => Root.good_step (Root.good_step (k := 2 * k) hg h1) h2)
        have HS := Lib.hid (arr_set2 (l := l) hlt)
        have hal := Root.arr_len l (2 * k)
        generalize (l.getD (2 * k) 0).toNat = c1 at *
        generalize (l.getD (2 * k + 1) 0).toNat = c2 at *
        generalize Root.vat l (2 * k) = v1 at *
        generalize Root.vat l (2 * k + 1) = v2 at *
        rcases hb1 with rfl | ⟨p1, p2⟩
        · have T0 := O.t0
          have KW := O.ext
          have L1 := O.arr
          have hr := hz
          obtain ⟨ea, rfl⟩ : z = a ∧ q = false := by
            have := HV.out
            unfold Root.ofV at this
            rw [HF1.out rfl] at this
            rw [HZ.out]
            simpa [eq_comm] using this
          subst ea
          clear O hg HV
          rcases hb2 with rfl | ⟨p3, p4⟩
          · have e32 : (rootC z).toArray.size = 32 := by rw [List.size_toArray]; exact rootC_len hr
            have T1 : World.there wr w.heap.size 0 (rootC z).toArray.size := by rw [e32]; exact T0
            clear e32
            have hi32 : (Try.prog.info? 23).map (·.size) = some (rootC z).length := by rw [rootC_len hr]; kernel_rfl
            have Y2 := World.rangeAt_setCells_same wr w.heap.size 0 (rootC z) (by rw [rootC_len hr]; exact T0)
            have K2 := Ext.setCells (Nat.le_refl w.heap.size) (rootC z) 0 KW
            have HF := Lib.hid (And.intro Y2 K2)
            clear Y2 K2 T0
            go_wp2_with (first | ((with_reducible refine at_index ?_); refine wpList_index_as rfl _ _ _ rfl _ (hi1 _) ?_) | ((with_reducible refine at_index ?_); refine wpList_index_as rfl _ _ _ rfl _ (hi2 _) ?_) | (go_at_call 20; (with_reducible refine (hv1 _).mono ?_); rintro e w' ⟨rfl, hw⟩; rw [hw]; clear hw) | (go_at_call 20; (with_reducible refine (hv2 _).mono ?_); rintro e w' ⟨rfl, hw⟩; rw [hw]; clear hw) | ((with_reducible refine at_load ?_); refine wpList_load_mid rfl 23 _ rfl _ _ rfl (rootC z) _ L1 Try.underlying23 rfl hi32 ?_) | ((with_reducible refine at_store ?_); refine wpList_store_mid rfl 23 _ _ rfl w.heap.size 0 (rootC z).toArray rfl rfl (by with_reducible exact T1) (by rw [List.size_toArray]; exact hi32) (all_oneCell_toArray (root_one z)) ?_; rw [List.toList_toArray]; generalize World.setCells wr w.heap.size 0 (rootC z) = W9 at *))
            obtain ⟨Y2, K2⟩ := HF.out
            refine bodyPost_ret (v := .tuple #[.agg (rootC z).toArray, .bool false]) ?_ rfl ⟨rfl, K2⟩
            have hl6 := run_loadVar_mid (P := Try.prog) _ w.heap.size 0 23 _ _ Y2 Try.underlying23 rfl hi32
            simp only [results, Try.results11]
            simp [Sem.run_bind, Sem.run_pure, hl6, asAddr]
          · have e32 : (rootC z).toArray.size = 32 := by rw [List.size_toArray]; exact rootC_len hr
            have T1 : World.there wr w.heap.size 0 (rootC z).toArray.size := by rw [e32]; exact T0
            clear e32
            have hi32 : (Try.prog.info? 23).map (·.size) = some (rootC z).length := by rw [rootC_len hr]; kernel_rfl
            have Y2 := World.rangeAt_setCells_same wr w.heap.size 0 (rootC z) (by rw [rootC_len hr]; exact T0)
            have K2 := Ext.setCells (Nat.le_refl w.heap.size) (rootC z) 0 KW
            have HF := Lib.hid (And.intro Y2 K2)
            clear Y2 K2 T0
            go_wp2_with (first | ((with_reducible refine at_index ?_); refine wpList_index_as rfl _ _ _ rfl _ (hi1 _) ?_) | ((with_reducible refine at_index ?_); refine wpList_index_as rfl _ _ _ rfl _ (hi2 _) ?_) | (go_at_call 20; (with_reducible refine (hv1 _).mono ?_); rintro e w' ⟨rfl, hw⟩; rw [hw]; clear hw) | (go_at_call 20; (with_reducible refine (hv2 _).mono ?_); rintro e w' ⟨rfl, hw⟩; rw [hw]; clear hw) | ((with_reducible refine at_load ?_); refine wpList_load_mid rfl 23 _ rfl _ _ rfl (rootC z) _ L1 Try.underlying23 rfl hi32 ?_) | ((with_reducible refine at_store ?_); refine wpList_store_mid rfl 23 _ _ rfl w.heap.size 0 (rootC z).toArray rfl rfl (by with_reducible exact T1) (by rw [List.size_toArray]; exact hi32) (all_oneCell_toArray (root_one z)) ?_; rw [List.toList_toArray]; generalize World.setCells wr w.heap.size 0 (rootC z) = W9 at *))
            obtain ⟨Y2, K2⟩ := HF.out
            refine bodyPost_ret (v := .tuple #[.agg (rootC z).toArray, .bool false]) ?_ rfl ⟨rfl, K2⟩
            have hl6 := run_loadVar_mid (P := Try.prog) _ w.heap.size 0 23 _ _ Y2 Try.underlying23 rfl hi32
            simp only [results, Try.results11]
            simp [Sem.run_bind, Sem.run_pure, hl6, asAddr]
        · rcases hb2 with rfl | ⟨p3, p4⟩
          · have T0 := O.t0
            have KW := O.ext
            have L1 := O.arr
            have hr := hz
            obtain ⟨ea, rfl⟩ : z = a ∧ q = false := by
              have := HV.out
              unfold Root.ofV at this
              rw [HF2.out rfl] at this
              rw [HZ.out]
              simpa [eq_comm] using this
            subst ea
            clear O hg HV
            have e32 : (rootC z).toArray.size = 32 := by rw [List.size_toArray]; exact rootC_len hr
            have T1 : World.there wr w.heap.size 0 (rootC z).toArray.size := by rw [e32]; exact T0
            clear e32
            have hi32 : (Try.prog.info? 23).map (·.size) = some (rootC z).length := by rw [rootC_len hr]; kernel_rfl
            have Y2 := World.rangeAt_setCells_same wr w.heap.size 0 (rootC z) (by rw [rootC_len hr]; exact T0)
            have K2 := Ext.setCells (Nat.le_refl w.heap.size) (rootC z) 0 KW
            have HF := Lib.hid (And.intro Y2 K2)
            clear Y2 K2 T0
            go_wp2_with (first | ((with_reducible refine at_index ?_); refine wpList_index_as rfl _ _ _ rfl _ (hi1 _) ?_) | ((with_reducible refine at_index ?_); refine wpList_index_as rfl _ _ _ rfl _ (hi2 _) ?_) | (go_at_call 20; (with_reducible refine (hv1 _).mono ?_); rintro e w' ⟨rfl, hw⟩; rw [hw]; clear hw) | (go_at_call 20; (with_reducible refine (hv2 _).mono ?_); rintro e w' ⟨rfl, hw⟩; rw [hw]; clear hw) | ((with_reducible refine at_load ?_); refine wpList_load_mid rfl 23 _ rfl _ _ rfl (rootC z) _ L1 Try.underlying23 rfl hi32 ?_) | ((with_reducible refine at_store ?_); refine wpList_store_mid rfl 23 _ _ rfl w.heap.size 0 (rootC z).toArray rfl rfl (by with_reducible exact T1) (by rw [List.size_toArray]; exact hi32) (all_oneCell_toArray (root_one z)) ?_; rw [List.toList_toArray]; generalize World.setCells wr w.heap.size 0 (rootC z) = W9 at *))
            obtain ⟨Y2, K2⟩ := HF.out
            refine bodyPost_ret (v := .tuple #[.agg (rootC z).toArray, .bool false]) ?_ rfl ⟨rfl, K2⟩
            have hl6 := run_loadVar_mid (P := Try.prog) _ w.heap.size 0 23 _ _ Y2 Try.underlying23 rfl hi32
            simp only [results, Try.results11]
            simp [Sem.run_bind, Sem.run_pure, hl6, asAddr]
          · have O2 := O.put hal hlt (16 * v1 + v2)
            rw [HS.out] at O2
            have HO := Lib.hid O2
            have hcell := O.cell hal hlt
            have hfz := O.fz
            have HG2 := Lib.hid (HG.out p1 p3)
            clear O O2 hg HS HG HF1 HF2
            go_wp2_with (first | ((with_reducible refine at_index ?_); refine wpList_index_as rfl _ _ _ rfl _ (hi1 _) ?_) | ((with_reducible refine at_index ?_); refine wpList_index_as rfl _ _ _ rfl _ (hi2 _) ?_) | (go_at_call 20; (with_reducible refine (hv1 _).mono ?_); rintro e w' ⟨rfl, hw⟩; rw [hw]; clear hw) | (go_at_call 20; (with_reducible refine (hv2 _).mono ?_); rintro e w' ⟨rfl, hw⟩; rw [hw]; clear hw))
            exact ⟨⟨k + 1, by omega, by go_num, HG2.out, HO.out⟩, by simp [intOf]; omega⟩
      · have ek : k = 32 := by omega
        subst ek
        have hi1 := True.intro
        have hi2 := True.intro
        have hv1 := True.intro
        have hv2 := True.intro
        have hr := Root.arr_ok hg
        obtain ⟨ea, rfl⟩ : Root.arrV l 64 = a ∧ q = true := by
          have := HV.out
          unfold Root.ofV at this
          rw [if_pos (Root.fits_good hll hg)] at this
          simpa [eq_comm] using this
        have T0 := O.t0
        have L1 := O.arr
        have KW := O.ext
        rw [ea] at hr L1
        clear ea O hg HV
        have e32 : (rootC a).toArray.size = 32 := by rw [List.size_toArray]; exact rootC_len hr
        have T1 : World.there wr w.heap.size 0 (rootC a).toArray.size := by rw [e32]; exact T0
        clear e32
        have hi32 : (Try.prog.info? 23).map (·.size) = some (rootC a).length := by rw [rootC_len hr]; kernel_rfl
        have Y2 := World.rangeAt_setCells_same wr w.heap.size 0 (rootC a) (by rw [rootC_len hr]; exact T0)
        have K2 := Ext.setCells (Nat.le_refl w.heap.size) (rootC a) 0 KW
        have HF := Lib.hid (And.intro Y2 K2)
        clear Y2 K2 T0
        go_wp2_with (first | ((with_reducible refine at_index ?_); refine wpList_index_as rfl _ _ _ rfl _ (hi1 _) ?_) | ((with_reducible refine at_index ?_); refine wpList_index_as rfl _ _ _ rfl _ (hi2 _) ?_) | (go_at_call 20; (with_reducible refine (hv1 _).mono ?_); rintro e w' ⟨rfl, hw⟩; rw [hw]; clear hw) | (go_at_call 20; (with_reducible refine (hv2 _).mono ?_); rintro e w' ⟨rfl, hw⟩; rw [hw]; clear hw) | ((with_reducible refine at_load ?_); refine wpList_load_mid rfl 23 _ rfl _ _ rfl (rootC a) _ L1 Try.underlying23 rfl hi32 ?_) | ((with_reducible refine at_store ?_); refine wpList_store_mid rfl 23 _ _ rfl w.heap.size 0 (rootC a).toArray rfl rfl (by with_reducible exact T1) (by rw [List.size_toArray]; exact hi32) (all_oneCell_toArray (root_one a)) ?_; rw [List.toList_toArray]; generalize World.setCells wr w.heap.size 0 (rootC a) = W9 at *))
        obtain ⟨Y2, K2⟩ := HF.out
        refine bodyPost_ret (v := .tuple #[.agg (rootC a).toArray, .bool true]) ?_ rfl ⟨rfl, K2⟩
        have hl6 := run_loadVar_mid (P := Try.prog) _ w.heap.size 0 23 _ _ Y2 Try.underlying23 rfl hi32
        simp only [results, Try.results11]
        simp [Sem.run_bind, Sem.run_pure, hl6, asAddr]
  · have ho : Root.ofV s.data.toList = (z, false) := by
      unfold Root.ofV
      rw [Root.fits_len (by simpa using h64), ez]
      rfl
    rw [ho]
    have g1 : decide ((s.size : Int) = 64) = false := by rw [decide_eq_false_iff_not]; omega
    have hr := hz
    have KW := x0
    have hi1 := True.intro
    have hi2 := True.intro
    have hv1 := True.intro
    have hv2 := True.intro
    clear ez ho
    go_enter Try.func11, Try.ntmps11
    have e32 : (rootC z).toArray.size = 32 := by rw [List.size_toArray]; exact rootC_len hr
    have T1 : World.there w0 w.heap.size 0 (rootC z).toArray.size := by rw [e32]; exact T0
    clear e32
    have hi32 : (Try.prog.info? 23).map (·.size) = some (rootC z).length := by rw [rootC_len hr]; kernel_rfl
    have Y2 := World.rangeAt_setCells_same w0 w.heap.size 0 (rootC z) (by rw [rootC_len hr]; exact T0)
    have K2 := Ext.setCells (Nat.le_refl w.heap.size) (rootC z) 0 KW
    have HF := Lib.hid (And.intro Y2 K2)
    clear Y2 K2 T0
    go_wp2_with (first | ((with_reducible refine at_index ?_); refine wpList_index_as rfl _ _ _ rfl _ (hi1 _) ?_) | ((with_reducible refine at_index ?_); refine wpList_index_as rfl _ _ _ rfl _ (hi2 _) ?_) | (go_at_call 20; (with_reducible refine (hv1 _).mono ?_); rintro e w' ⟨rfl, hw⟩; rw [hw]; clear hw) | (go_at_call 20; (with_reducible refine (hv2 _).mono ?_); rintro e w' ⟨rfl, hw⟩; rw [hw]; clear hw) | ((with_reducible refine at_load ?_); refine wpList_load_mid rfl 23 _ rfl _ _ rfl (rootC z) _ L1 Try.underlying23 rfl hi32 ?_) | ((with_reducible refine at_store ?_); refine wpList_store_mid rfl 23 _ _ rfl w.heap.size 0 (rootC z).toArray rfl rfl (by with_reducible exact T1) (by rw [List.size_toArray]; exact hi32) (all_oneCell_toArray (root_one z)) ?_; rw [List.toList_toArray]; generalize World.setCells w0 w.heap.size 0 (rootC z) = W9 at *))
    obtain ⟨Y2, K2⟩ := HF.out
    refine bodyPost_ret (v := .tuple #[.agg (rootC z).toArray, .bool false]) ?_ rfl ⟨rfl, K2⟩
    have hl6 := run_loadVar_mid (P := Try.prog) _ w.heap.size 0 23 _ _ Y2 Try.underlying23 rfl hi32
    simp only [results, Try.results11]
    simp [Sem.run_bind, Sem.run_pure, hl6, asAddr]
end Go.Proofs.Ytamibbcdklpncaa
