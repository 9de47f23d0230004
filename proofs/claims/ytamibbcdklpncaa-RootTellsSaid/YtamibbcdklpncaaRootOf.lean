/- root.Of: the root of a text. -/
import Derived.Test.YtamibbcdklpncaaRootOfV
namespace Go.Proofs.Ytamibbcdklpncaa
open Go.RowKit Go.WideShapes Go.ChangeShapes
set_option linter.unusedVariables false
set_option linter.unusedSimpArgs false


theorem zeroRootC (w : World) : Sem.run Try.prog (zeroValue 23) w = .ok (.agg (rootC zeroR).toArray) w := by kernel_rfl
theorem there_of {w : World} {B n : Nat} {cs : List Value} (h : w.rangeAt B 0 cs) (hn : cs.length = n) (hf : ∀ o, w.frozen? ⟨B, o, none⟩ = false) : w.there B 0 n := fun j hj => by
  have := h j _ (List.getElem?_eq_getElem (by omega))
  exact ⟨by rw [this]; rfl, hf _⟩
theorem decode_top (s : ByteArray) (pos : Nat) : (Utf8.decode s pos).1 ≤ 1114111 := by
  have hb : ∀ k, (s.get! (pos + k)).toNat < 256 := fun k => (s.get! (pos + k)).toNat_lt
  have h0 := hb 0; have h1 := hb 1; have h2 := hb 2; have h3 := hb 3
  simp only [Utf8.decode]
  repeat' split
  all_goals simp_all [Utf8.runeError, Utf8.valid]
  all_goals omega
/-- The world while a text is read: two roots and the place. -/
structure OfW (w wr : World) (s : ByteArray) (k : Nat) (r : List Int) : Prop where
  ext : Ext w wr
  it : wr.heap[w.heap.size + 2]? = some (.stringIter s k)
  t0 : wr.there w.heap.size 0 32
  arr : wr.rangeAt (w.heap.size + 1) 0 (rootC r)
  fz : ∀ o, wr.frozen? ⟨w.heap.size + 1, o, none⟩ = false
theorem there_ext {w w' : World} (h : Ext w w') {b o n : Nat} (t : w.there b o n) : w'.there b o n := fun j hj => by
  obtain ⟨h1, h2⟩ := t j hj
  obtain ⟨v, hv⟩ := Option.isSome_iff_exists.1 h1
  exact ⟨by rw [h.cell hv]; rfl, (h.out.frozen (World.block_lt_of_cell? _ _ hv)).trans h2⟩
theorem OfW.start {w w0 : World} {s : ByteArray} {r : List Int} (x0 : Ext w w0) (z0 : w0.heap.size = w.heap.size + 2) (t0 : w0.there w.heap.size 0 32) (l1 : w0.rangeAt (w.heap.size + 1) 0 (rootC r)) (f1 : ∀ o, w0.frozen? ⟨w.heap.size + 1, o, none⟩ = false) : OfW w (w0.iter s 0) s 0 r := by
  have x1 : Ext w0 (w0.iter s 0) := Ext.alloc (Ext.refl _) _
  refine ⟨x0.trans x1, ?_, there_ext x1 t0, rangeAt_ext l1 x1, fun o => (x1.out.frozen (by show w.heap.size + 1 < _; omega)).trans (f1 o)⟩
  have := World.iter_heap w0 s 0
  rwa [z0] at this
theorem OfW.next {w wr : World} {s : ByteArray} {k : Nat} {r : List Int} (h : OfW w wr s k r) (k' : Nat) : OfW w (wr.iterAt (w.heap.size + 2) s k') s k' r := by
  have e0 := fun (b : Nat) (hb : b < w.heap.size + 2) => Lib.iterAt_other wr (w.heap.size + 2) b s k' (by omega)
  refine ⟨⟨Lib.below_iterAt h.ext.out (by omega) s k'⟩, Lib.iterAt_heap wr _ s k k' h.it, fun j hj => ?_, fun j v hv => ?_, fun o => ?_⟩
  · rw [World.cell?_of_block (e0 w.heap.size (by omega)), World.frozen?_of_block (e0 w.heap.size (by omega))]
    exact h.t0 j hj
  · rw [World.cell?_of_block (e0 (w.heap.size + 1) (by omega))]
    exact h.arr j v hv
  · rw [World.frozen?_of_block (e0 (w.heap.size + 1) (by omega))]
    exact h.fz o
theorem OfW.cell {w wr : World} {s : ByteArray} {k : Nat} {r : List Int} (h : OfW w wr s k r) (hr : r.length = 32) {q : Nat} (hq : q < 32) : wr.cell? ⟨w.heap.size + 1, q, none⟩ = some (.int .u8 (nth r q)) := by
  have := h.arr q _ (nth_map (k := .u8) (by omega))
  simpa using this
theorem OfW.put {w wr : World} {s : ByteArray} {k : Nat} {r : List Int} (h : OfW w wr s k r) (hr : r.length = 32) {q : Nat} (hq : q < 32) (v : Int) : OfW w (wr.setCell ⟨w.heap.size + 1, q, none⟩ (.int .u8 v)) s k (r.set q v) := by
  have hc := h.cell hr hq
  refine ⟨h.ext.setCell (by simp) _, ?_, fun j hj => ?_, fun j u hu => ?_, fun o => by rw [World.frozen?_setCell]; exact h.fz o⟩
  · have := h.it
    have hs := Go.Deep.blk_setCell_other wr ⟨w.heap.size + 1, q, none⟩ (.int .u8 v) (w.heap.size + 2) (by show w.heap.size + 2 ≠ w.heap.size + 1; omega)
    rw [hs]; exact this
  · rw [World.cell?_setCell_far wr ⟨w.heap.size + 1, q, none⟩ ⟨w.heap.size, 0 + j, none⟩ _ (by show w.heap.size + 1 ≠ w.heap.size; omega), World.frozen?_setCell]
    exact h.t0 j hj
  · by_cases e : j = q
    · subst e
      have e1 : u = .int .u8 v := by
        unfold rootC at hu
        simp [hr, hq] at hu
        exact hu.symm
      rw [e1, Nat.zero_add]
      exact World.cell?_setCell_same' _ _ _ (by rw [hc]; rfl)
    · rw [World.cell?_setCell_other (h := show (⟨w.heap.size + 1, q, none⟩ : Addr) ≠ ⟨w.heap.size + 1, 0 + j, none⟩ from fun e' => by injection e' with _ e1; omega)]
      refine h.arr j u ?_
      unfold rootC at hu ⊢
      simp [List.getElem?_set, Ne.symm e] at hu
      simpa using hu
theorem two_new (w : World) (z : List Int) (hz : RootOk z) : ∃ w0, (w.alloc (.cells (rootC z).toArray 23)).alloc (.cells (rootC z).toArray 23) = w0 ∧ Ext w w0 ∧ w0.heap.size = w.heap.size + 2 ∧
    w0.there w.heap.size 0 32 ∧ w0.rangeAt (w.heap.size + 1) 0 (rootC z) ∧ ∀ o, w0.frozen? ⟨w.heap.size + 1, o, none⟩ = false := by
  refine ⟨_, rfl, (by repeat (first | assumption | exact Ext.refl _ | refine Ext.alloc ?_ _ | refine Ext.drew ?_ | refine Ext.drewN ?_ _ | refine Ext.setCell ?_ (by first | (simp; done) | omega | (simp; omega)) _ | refine Ext.trans (by assumption) ?_)), by simp, ?_, ?_, ?_⟩
  · refine there_of (rangeAt_ext (range_new w (rootC z) 23) (Ext.alloc (Ext.refl _) _)) (rootC_len hz) (fun o => ?_)
    simp (maxDischargeDepth := 7) [go_sem]
  · exact range_at (rootC z) _ (by simp)
  · intro o
    have := World.frozen?_alloc_new
    simp (maxDischargeDepth := 7) [go_sem]
theorem bits_or4 : ∀ x d : Fin 16, bits BinOp.or IntKind.u8 (((x.1 : Nat) : Int) * 16) ((d.1 : Nat) : Int) = 16 * ((x.1 : Nat) : Int) + ((d.1 : Nat) : Int) := by decide +kernel
set_option maxHeartbeats 2000000 in
theorem rof_any (s : ByteArray) (w : World) : Calls Try.prog 10 #[.string s] w fun e w' => e = .returned (.tuple #[.agg (rootC (Root.ofV s.data.toList).1).toArray, .bool (Root.ofV s.data.toList).2]) ∧ Ext w w' := by
  obtain ⟨z, ez⟩ : ∃ z, z = zeroR := ⟨_, rfl⟩
  have hz : RootOk z := by rw [ez]; exact zeroR_ok
  have hzn : ∀ W, Sem.run Try.prog (zeroValue 23) W = .ok (.agg (rootC z).toArray) W := by rw [ez]; exact zeroRootC
  obtain ⟨w0, hw0, x0, z0, T0, L1, F1⟩ := two_new w z hz
  have HZ := Lib.hid ez
  by_cases h64 : s.size = 64
  · have g1 : decide ((s.size : Int) = 64) = true := by rw [decide_eq_true_iff]; omega
    obtain ⟨l, hl⟩ : ∃ l, l = s.data.toList := ⟨_, rfl⟩
    have hll : l.length = 64 := by rw [hl]; simpa using h64
    have HS := Lib.hid (fun (k : Nat) (h : k < s.size) => (by rw [hl]; simp [h]; rfl : l.getD k 0 = s[k]'h))
    rw [← hl]
    clear hl
    have R0 : OfW w (w0.iter s 0) s 0 (Root.arrV l 0) := by
      rw [Root.arr_zero, ← ez]
      exact OfW.start x0 z0 T0 L1 F1
    obtain ⟨a, q, hV⟩ : ∃ a q, Root.ofV l = (a, q) := ⟨_, _, rfl⟩
    rw [hV]
    have HV := Lib.hid hV
    clear hV T0 L1 F1
    clear ez
    go_enter Try.func10, Try.ntmps10
    go_wp2
    go_loopw [5, 6, 7] (fun _ _ _ wr => ∃ k : Nat, k ≤ 64 ∧ Root.Good l k ∧ OfW w wr s k (Root.arrV l k)) (fun _ _ _ wr => 64 - wr.iterPos (w.heap.size + 2))
    case atStart => exact ⟨0, by omega, Root.good_zero l, R0⟩
    case round =>
      clear R0
      obtain ⟨k, hk, hg, O⟩ := hrel
      by_cases hlt : k < s.size
      · have hs := HS.out k hlt
        have hk32 : k / 2 < 32 := by omega
        by_cases hc : (s[k]'hlt).toNat < 128
        · have hnx := fun ty => Lib.run_next_ascii_at (P := Try.prog) wr (w.heap.size + 2) s k ty O.it hlt hc
          have O1 := O.next (k + 1)
          obtain ⟨w1, hw1⟩ : ∃ w1, wr.iterAt (w.heap.size + 2) s (k + 1) = w1 := ⟨_, rfl⟩
          rw [hw1] at hnx O1
          have hit := O.it
          have hm1 : wr.iterPos (w.heap.size + 2) = k := by simp only [World.iterPos, hit]
          clear hw1 O hit
          have hx := fun W => Try.strings_IndexRune_ascii Root.dgs ((s[k]'hlt).toNat : Int) W (by omega) (by omega)
          have e1 : Lib.indexByte Root.dgs.data.toList (((s[k]'hlt).toNat : Int).toNat.toUInt8) = Root.vat l k := by
            unfold Root.vat Root.val
            rw [hs]
            have e2 : ((s[k]'hlt).toNat : Int).toNat.toUInt8 = s[k]'hlt := by simp
            rw [e2]
            rfl
          rw [e1] at hx
          generalize s[k]'hlt = ch at *
          clear e1 hs
          rcases Root.val_cases (l.getD k 0) with hv | hv
          · have hv' : Root.vat l k = -1 := hv
            rw [hv'] at hx
            obtain ⟨ea, rfl⟩ : z = a ∧ q = false := by
              have := HV.out
              unfold Root.ofV at this
              rw [Root.fits_bad (by omega) hv'] at this
              rw [HZ.out]
              simpa [eq_comm] using this
            subst ea
            have T0 := O1.t0
            have KW := O1.ext
            have L1 := O1.arr
            have hr := hz
            clear O1 hg hv hv' HV
            have e32 : (rootC z).toArray.size = 32 := by rw [List.size_toArray]; exact rootC_len hr
            have T1 : World.there w1 w.heap.size 0 (rootC z).toArray.size := by rw [e32]; exact T0
            clear e32
            have hi32 : (Try.prog.info? 23).map (·.size) = some (rootC z).length := by rw [rootC_len hr]; kernel_rfl
            have Y2 := World.rangeAt_setCells_same w1 w.heap.size 0 (rootC z) (by rw [rootC_len hr]; exact T0)
            have K2 := Ext.setCells (Nat.le_refl w.heap.size) (rootC z) 0 KW
            have HF := Lib.hid (And.intro Y2 K2)
            clear Y2 K2 T0
            go_wp2_with (first | ((go_at_call 19; refine (hx _).mono ?_; rintro e w' ⟨rfl, hw⟩; rw [hw]; clear hw)) | (refine wpList_load_mid rfl 23 _ rfl _ _ rfl (rootC z) _ L1 Try.underlying23 rfl hi32 ?_) | (refine wpList_store_mid rfl 23 _ _ rfl w.heap.size 0 (rootC z).toArray rfl rfl (by with_reducible exact T1) (by rw [List.size_toArray]; exact hi32) (all_oneCell_toArray (root_one z)) ?_; rw [List.toList_toArray]; generalize World.setCells w1 w.heap.size 0 (rootC z) = W9 at *))
            obtain ⟨Y2, K2⟩ := HF.out
            refine bodyPost_ret (v := .tuple #[.agg (rootC z).toArray, .bool false]) ?_ rfl ⟨rfl, K2⟩
            have hl6 := run_loadVar_mid (P := Try.prog) _ w.heap.size 0 23 _ _ Y2 Try.underlying23 rfl hi32
            simp only [results, Try.results10]
            simp [Sem.run_bind, Sem.run_pure, hl6, asAddr]
          · have hv' : 0 ≤ Root.vat l k := hv.1
            have hg1 := Root.good_step hg hv'
            obtain ⟨x, d, hx16, hd16, ex, ed, en⟩ := Root.cell_next hg1
            rw [ed] at hx
            have hcell := O1.cell (Root.arr_len l k) hk32
            rw [Root.nth_arr _ _ _ hk32, ex] at hcell
            have hfz := O1.fz
            have hsh := fun W => run_shl4 hx16 5 38 W
            have hor := fun W => run_or4 hx16 hd16 5 W
            have O2 := O1.put (Root.arr_len l k) hk32 (16 * (x : Int) + d)
            rw [← en, Root.arr_set (by omega)] at O2
            rw [en] at O2
            have HO := Lib.hid O2
            have HG := Lib.hid hg1
            clear O1 O2 en ex ed hg1 hg hv hv'
            go_wp2_with (go_at_call 19; refine (hx _).mono ?_; rintro e w' ⟨rfl, hw⟩; rw [hw]; clear hw)
            have hb := bits_or4 ⟨x, hx16⟩ ⟨d, hd16⟩
            simp only [] at hb
            rw [hb]
            have it2 := HO.out.it
            refine ⟨⟨k + 1, by omega, HG.out, HO.out⟩, ?_⟩
            rw [hm1]
            simp only [World.iterPos, it2]
            omega
        · have hnx := fun ty => Lib.run_next_any_at (P := Try.prog) wr (w.heap.size + 2) s k ty O.it hlt
          have hh := (decode_high s k hlt (by omega)).1
          have hm := decode_top s k
          have hv' : Root.vat l k = -1 := by
            unfold Root.vat
            rcases Root.val_cases (l.getD k 0) with hv | hv
            · exact hv
            · rw [hs] at hv; omega
          have O1 := O.next (k + (Utf8.decode s k).2)
          generalize (Utf8.decode s k).2 = wd at hnx O1
          generalize (Utf8.decode s k).1 = c at *
          obtain ⟨w1, hw1⟩ : ∃ w1, wr.iterAt (w.heap.size + 2) s (k + wd) = w1 := ⟨_, rfl⟩
          rw [hw1] at hnx O1
          clear hw1 O
          have hx := indexRune_high (c : Int) w1 (by omega) (by omega)
          obtain ⟨ea, rfl⟩ : z = a ∧ q = false := by
            have := HV.out
            unfold Root.ofV at this
            rw [Root.fits_bad (by omega) hv'] at this
            rw [HZ.out]
            simpa [eq_comm] using this
          subst ea
          have HO := Lib.hid (fun W (kx : Ext w1 W) => And.intro (there_ext kx O1.t0) (O1.ext.trans kx))
          have hr := hz
          clear O1 hg hv' HV hs
          go_wp2_with (go_at_call 19; refine hx.mono ?_)
          rintro e w2 ⟨rfl, kx⟩
          obtain ⟨T0, KW⟩ := HO.out w2 kx
          clear HO kx
          have e32 : (rootC z).toArray.size = 32 := by rw [List.size_toArray]; exact rootC_len hr
          have T1 : World.there w2 w.heap.size 0 (rootC z).toArray.size := by rw [e32]; exact T0
          clear e32
          have hi32 : (Try.prog.info? 23).map (·.size) = some (rootC z).length := by rw [rootC_len hr]; kernel_rfl
          have Y2 := World.rangeAt_setCells_same w2 w.heap.size 0 (rootC z) (by rw [rootC_len hr]; exact T0)
          have K2 := Ext.setCells (Nat.le_refl w.heap.size) (rootC z) 0 KW
          have HF := Lib.hid (And.intro Y2 K2)
          clear Y2 K2 T0
          go_wp2_with (first | (refine wpList_load_mid rfl 23 _ rfl _ _ rfl (rootC z) _ L1 Try.underlying23 rfl hi32 ?_) | (refine wpList_store_mid rfl 23 _ _ rfl w.heap.size 0 (rootC z).toArray rfl rfl (by with_reducible exact T1) (by rw [List.size_toArray]; exact hi32) (all_oneCell_toArray (root_one z)) ?_; rw [List.toList_toArray]; generalize World.setCells w2 w.heap.size 0 (rootC z) = W9 at *))
          obtain ⟨Y2, K2⟩ := HF.out
          refine bodyPost_ret (v := .tuple #[.agg (rootC z).toArray, .bool false]) ?_ rfl ⟨rfl, K2⟩
          have hl6 := run_loadVar_mid (P := Try.prog) _ w.heap.size 0 23 _ _ Y2 Try.underlying23 rfl hi32
          simp only [results, Try.results10]
          simp [Sem.run_bind, Sem.run_pure, hl6, asAddr]
      · have hnx := fun ty => Lib.run_next_end_at (P := Try.prog) wr (w.heap.size + 2) s k ty O.it hlt
        have ek : k = 64 := by omega
        subst ek
        have hr := Root.arr_ok hg
        obtain ⟨ea, rfl⟩ : Root.arrV l 64 = a ∧ q = true := by
          have := HV.out
          unfold Root.ofV at this
          rw [if_pos (Root.fits_good hll hg)] at this
          simpa [eq_comm] using this
        have T0 := O.t0
        have L1 := O.arr
        have KW := O.ext
        rw [ea] at hr L1
        clear ea O hg HV
        have e32 : (rootC a).toArray.size = 32 := by rw [List.size_toArray]; exact rootC_len hr
        have T1 : World.there wr w.heap.size 0 (rootC a).toArray.size := by rw [e32]; exact T0
        clear e32
        have hi32 : (Try.prog.info? 23).map (·.size) = some (rootC a).length := by rw [rootC_len hr]; kernel_rfl
        have Y2 := World.rangeAt_setCells_same wr w.heap.size 0 (rootC a) (by rw [rootC_len hr]; exact T0)
        have K2 := Ext.setCells (Nat.le_refl w.heap.size) (rootC a) 0 KW
        have HF := Lib.hid (And.intro Y2 K2)
        clear Y2 K2 T0
        go_wp2_with (first | (refine wpList_load_mid rfl 23 _ rfl _ _ rfl (rootC a) _ L1 Try.underlying23 rfl hi32 ?_) | (refine wpList_store_mid rfl 23 _ _ rfl w.heap.size 0 (rootC a).toArray rfl rfl (by with_reducible exact T1) (by rw [List.size_toArray]; exact hi32) (all_oneCell_toArray (root_one a)) ?_; rw [List.toList_toArray]; generalize World.setCells wr w.heap.size 0 (rootC a) = W9 at *))
        obtain ⟨Y2, K2⟩ := HF.out
        refine bodyPost_ret (v := .tuple #[.agg (rootC a).toArray, .bool true]) ?_ rfl ⟨rfl, K2⟩
        have hl6 := run_loadVar_mid (P := Try.prog) _ w.heap.size 0 23 _ _ Y2 Try.underlying23 rfl hi32
        simp only [results, Try.results10]
        simp [Sem.run_bind, Sem.run_pure, hl6, asAddr]
  · have ho : Root.ofV s.data.toList = (z, false) := by
      unfold Root.ofV
      rw [Root.fits_len (by simpa using h64), ez]
      rfl
    rw [ho]
    have g1 : decide ((s.size : Int) = 64) = false := by rw [decide_eq_false_iff_not]; omega
    have hr := hz
    have KW := x0
    clear ez ho
    go_enter Try.func10, Try.ntmps10
    have e32 : (rootC z).toArray.size = 32 := by rw [List.size_toArray]; exact rootC_len hr
    have T1 : World.there w0 w.heap.size 0 (rootC z).toArray.size := by rw [e32]; exact T0
    clear e32
    have hi32 : (Try.prog.info? 23).map (·.size) = some (rootC z).length := by rw [rootC_len hr]; kernel_rfl
    have Y2 := World.rangeAt_setCells_same w0 w.heap.size 0 (rootC z) (by rw [rootC_len hr]; exact T0)
    have K2 := Ext.setCells (Nat.le_refl w.heap.size) (rootC z) 0 KW
    have HF := Lib.hid (And.intro Y2 K2)
    clear Y2 K2 T0
    go_wp2_with (first | (refine wpList_load_mid rfl 23 _ rfl _ _ rfl (rootC z) _ L1 Try.underlying23 rfl hi32 ?_) | (refine wpList_store_mid rfl 23 _ _ rfl w.heap.size 0 (rootC z).toArray rfl rfl (by with_reducible exact T1) (by rw [List.size_toArray]; exact hi32) (all_oneCell_toArray (root_one z)) ?_; rw [List.toList_toArray]; generalize World.setCells w0 w.heap.size 0 (rootC z) = W9 at *))
    obtain ⟨Y2, K2⟩ := HF.out
    refine bodyPost_ret (v := .tuple #[.agg (rootC z).toArray, .bool false]) ?_ rfl ⟨rfl, K2⟩
    have hl6 := run_loadVar_mid (P := Try.prog) _ w.heap.size 0 23 _ _ Y2 Try.underlying23 rfl hi32
    simp only [results, Try.results10]
    simp [Sem.run_bind, Sem.run_pure, hl6, asAddr]
end Go.Proofs.Ytamibbcdklpncaa
