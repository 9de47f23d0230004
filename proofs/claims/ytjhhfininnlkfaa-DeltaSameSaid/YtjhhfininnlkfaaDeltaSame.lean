/- DeltaSame: from votes to themselves nothing comes, or goes; a vote of a new epoch for the same block goes, and comes; for every input. -/
import Derived.Test.YtjhhfininnlkfaaDeltaAwake
import Derived.Test.YtjhhfininnlkfaaDeltaLaw
import Derived.Test.YtjhhfininnlkfaaLatOpen
import Derived.Test.YtjhhfininnlkfaaQuietX
namespace Go.Proofs.Ytjhhfininnlkfaa
open Go.RowKit Go.WideShapes Go.ChangeShapes Go.Joins Go.Deep Go.Sort
set_option linter.unusedVariables false
set_option linter.unusedSimpArgs false











theorem same_true (l : List Int) (A : Option Addr) (n c : Nat) (B : Option Addr) (m d : Nat) (w : World) (h : Ints w .u64 A n c l) (g : Ints w .u64 B m d l) : Calls Try.prog 14 #[.slice A n c, .slice B m d] w fun e w' => e = .returned (.bool true) ∧ Ext w w' := by
  have k := rsame64_any A n c B m d l l w h g
  rw [decide_eq_true rfl] at k
  exact k
namespace Delta
open Weight
theorem newB_self {v : List Lat} {k : Nat} (h : k < v.length) : newB v v k = false := by
  rw [newB_in h, Lat.eqb_iff.2 rfl]
  simp
theorem sumV_self (T : List Node) (v : List Lat) (l : List Int) : sumV T v v l = List.replicate T.length (0 : Int) := by
  have h : ∀ p, ownF T v v l p = 0 := fun p => by
    rw [ownF_sum]
    refine sum_zero (fun k hk => ?_)
    unfold oneF hasB
    rw [newB_self hk]
    simp
  unfold sumV listOf
  apply List.ext_getElem (by simp)
  intro k h1 h2
  simp [h]
def tk (v : List Lat) (i e : Nat) : List Lat := v.set i ⟨true, (v.getD i Lat.none).root, e⟩
theorem tk_get {v : List Lat} {i e : Nat} (h : i < v.length) (k : Nat) : (tk v i e).getD k Lat.none = if k = i then ⟨true, (v.getD i Lat.none).root, e⟩ else v.getD k Lat.none := by
  unfold tk
  by_cases hk : k = i
  · subst hk; simp [List.getD, h]
  · rw [if_neg hk]
    simp only [List.getD]
    rw [List.getElem?_set_ne (fun e => hk e.symm)]
theorem eqb_ne {x y : Lat} (h : x ≠ y) : x.eqb y = false := by
  cases hq : x.eqb y with
  | false => rfl
  | true => exact absurd (Lat.eqb_iff.1 hq) h
theorem one_tk {T : List Node} {v : List Lat} {l : List Int} {i e p k : Nat} (hi : i < v.length) (hh : (v.getD i Lat.none).has = true) (he : (v.getD i Lat.none).epoch < e) (hk : k < v.length) :
    oneF T (tk v i e) v l p k = (if k = i then (if (v.getD i Lat.none).root ∈ Tree.roots T ∧ plc T v i = p then at' l i else 0) else 0) ∧ oneF T v (tk v i e) l p k = (if k = i then (if (v.getD i Lat.none).root ∈ Tree.roots T ∧ plc T v i = p then at' l i else 0) else 0) := by
  have hl : (tk v i e).length = v.length := by unfold tk; simp
  unfold oneF hasB plc
  rw [newB_in hk, newB_in (u := tk v i e) (by omega), tk_get hi]
  by_cases hki : k = i
  · subst hki
    rw [if_pos rfl, if_pos rfl]
    generalize v.getD k Lat.none = x at *
    have n1 : x ≠ ⟨true, x.root, e⟩ := fun h => by have := congrArg Lat.epoch h; simp at this; omega
    rw [eqb_ne n1, eqb_ne (fun h => n1 h.symm), hh]
    simp
  · rw [if_neg hki, if_neg hki, Lat.eqb_iff.2 rfl]
    simp
theorem own_tk {T : List Node} {v : List Lat} {l : List Int} {i e : Nat} (hi : i < v.length) (hh : (v.getD i Lat.none).has = true) (he : (v.getD i Lat.none).epoch < e) (p : Nat) :
    ownF T (tk v i e) v l p = (if (v.getD i Lat.none).root ∈ Tree.roots T ∧ plc T v i = p then at' l i else 0) ∧ ownF T v (tk v i e) l p = (if (v.getD i Lat.none).root ∈ Tree.roots T ∧ plc T v i = p then at' l i else 0) := by
  have hl : (tk v i e).length = v.length := by unfold tk; simp
  constructor
  · rw [ownF_sum, hl]
    exact (sum_congr (fun k hk => (one_tk hi hh he hk).1)).trans (sum_one hi _)
  · rw [ownF_sum]
    exact (sum_congr (fun k hk => (one_tk hi hh he hk).2)).trans (sum_one hi _)
theorem sumV_tk {T : List Node} {v : List Lat} {l : List Int} {i e : Nat} (hi : i < v.length) (hh : (v.getD i Lat.none).has = true) (he : (v.getD i Lat.none).epoch < e) : sumV T v (tk v i e) l = sumV T (tk v i e) v l :=
  listOf_congr (fun p _ => by rw [(own_tk hi hh he p).1, (own_tk hi hh he p).2])
theorem nth_tk {T : List Node} {v : List Lat} {l : List Int} {i e : Nat} (hi : i < v.length) (hh : (v.getD i Lat.none).has = true) (he : (v.getD i Lat.none).epoch < e) (hr : (v.getD i Lat.none).root ∈ Tree.roots T) : plc T v i < T.length ∧ nth (sumV T (tk v i e) v l) (plc T v i) = (at' l i : Nat) := by
  have hp : plc T v i < T.length := by
    have := List.idxOf_lt_length_of_mem hr
    unfold plc
    unfold Tree.roots at this ⊢
    simpa using this
  refine ⟨hp, ?_⟩
  unfold sumV
  rw [nth_listOf hp, (own_tk hi hh he _).1, if_pos ⟨hr, rfl⟩]
theorem put_tk {v : List Lat} {vo i e : Nat} (hm : mayV v vo = true) (hi : i < v.length) (hh : (v.getD i Lat.none).has = true) (he : (v.getD i Lat.none).epoch < e) : putV v vo i (v.getD i Lat.none).root e = (tk v i e, vo, 1, 0) ∧ mayV (tk v i e) vo = true := by
  obtain ⟨h1, h2, h3, h4⟩ := mayV_iff.1 hm
  have hb : vo.testBit i = false := by
    have := h4 i hi
    unfold badAt at this
    have hne : (v.getD i Lat.none).eqb Lat.none = false := eqb_ne (fun h => by rw [h] at hh; cases hh)
    rw [hh, hne] at this
    simpa using this
  have hl : (tk v i e).length = v.length := by unfold tk; simp
  constructor
  · unfold putV
    rw [if_neg (by simp [hm]), if_neg (by omega), Int.toNat_natCast, hb]
    have : howV (v.getD i Lat.none) false (v.getD i Lat.none).root e = 0 := by unfold howV; rw [if_neg (by simp), if_pos (by rw [decide_eq_true he, Bool.or_true])]
    rw [if_pos this]
    rfl
  · refine mayV_iff.2 ⟨by omega, by omega, by rw [hl]; exact h3, fun k hk => ?_⟩
    rw [hl] at hk
    have := h4 k hk
    unfold badAt at this ⊢
    rw [tk_get hi]
    by_cases hki : k = i
    · subst hki
      rw [if_pos rfl, hb]
      simp
    · rw [if_neg hki]; exact this
end Delta
theorem alloc2 (w : World) (a b : Value) (ty : TypeId) : (w.alloc (.cells #[a, b] ty)).cell? ⟨w.heap.size, 0, none⟩ = some a ∧ (w.alloc (.cells #[a, b] ty)).cell? ⟨w.heap.size, 1, none⟩ = some b ∧ ∀ o, (w.alloc (.cells #[a, b] ty)).frozen? ⟨w.heap.size, o, none⟩ = false := ⟨by simp, by simp, fun o => by simp⟩
set_option maxRecDepth 8000 in
set_option maxHeartbeats 4000000 in
theorem DeltaSame_walk {w : World} (tA : Option Addr) (tn tc : Nat) (t : List Node) (ht : NL w tA tn tc t) (vA : Option Addr) (vn vc : Nat) (v : List Lat) (vo : Nat) (hvo : vo < 18446744073709551616) (hv : VL w vA vn vc v) (LA : Option Addr) (ln lc : Nat) (l : List Int) (hl : Ints w .u64 LA ln lc l) (i : Int) (i1 : -9223372036854775808 ≤ i) (i2 : i ≤ 9223372036854775807) (e : Nat) (he : e < 18446744073709551616) :
    Calls Try.prog 4 #[.agg #[.slice tA tn tc], .agg #[.slice vA vn vc, .int .u64 vo], .slice LA ln lc, .int .i64 i, .int .u64 e] w fun e' w' => e' = .returned (.bool true) ∧ Ext w w' := by
  have HAW := Lib.hid (fun W => awake_any W)
  have HO := Lib.hid (fun W (k : Ext w W) => dof_any tA tn tc t vA vn vc vo v hvo vA vn vc vo v hvo LA ln lc l W (ht.ext k) (hv.ext k) (hv.ext k) (hl.ext k))
  by_cases h1 : 20 < tn
  · have g1 : (20 : Int) < tn := by omega
    generalize Delta.fit2 t v vo v vo l = q at *
    generalize Delta.cameV t v vo v vo l = a at *
    generalize Delta.wentV t v vo v vo l = b at *
    clear ht hv hl
    go_enter Try.func4, Try.ntmps4
    go_wp2_with fail
    refine (HAW.out _).mono ?_
    rintro e0 w0 ⟨rfl, hx0⟩
    have k0 : Ext w w0 := Ext.trans ((by repeat (first | assumption | exact Ext.refl _ | refine Ext.alloc ?_ _ | refine Ext.drew ?_ | refine Ext.drewN ?_ _ | refine Ext.setCell ?_ (by first | (simp; done) | omega | (simp; omega)) _ | refine Ext.trans (by assumption) ?_))) hx0
    have t0 := hx0.cell (p := ⟨w.heap.size, 0, none⟩) (v := .slice tA tn tc) (by first | (simp; done) | (simp (maxDischargeDepth := 7) [go_sem]; done))
    have v0 := hx0.cell (p := ⟨w.heap.size + 1, 0, none⟩) (v := .slice vA vn vc) (by first | (simp; done) | (simp (maxDischargeDepth := 7) [go_sem]; done))
    have v1 := hx0.cell (p := ⟨w.heap.size + 1, 1, none⟩) (v := .int .u64 vo) (by first | (simp; done) | (simp (maxDischargeDepth := 7) [go_sem]; done))
    clear HAW hx0
    go_wp2_with fail
    refine (HO.out _ k0).mono ?_
    rintro e w1 ⟨⟨x, y, rfl, ⟨A1, n1, c1, rfl, h1⟩, ⟨A2, n2, c2, rfl, h2⟩⟩, hx1⟩
    have k1 := k0.trans hx1
    replace t0 := hx1.cell t0
    replace v0 := hx1.cell v0
    replace v1 := hx1.cell v1
    clear hx1 HO k0
    go_wp2
    go_ret
    exact ⟨rfl, k1⟩
  have g1 : ¬ (20 : Int) < tn := by omega
  clear h1
  cases hf : Delta.fitV t v vo l with
  | false =>
    have hq : Delta.fit2 t v vo v vo l = false := by unfold Delta.fit2; rw [hf]; rfl
    rw [hq] at HO
    generalize Delta.cameV t v vo v vo l = a at *
    generalize Delta.wentV t v vo v vo l = b at *
    clear ht hv hl hf hq
    go_enter Try.func4, Try.ntmps4
    go_wp2_with fail
    refine (HAW.out _).mono ?_
    rintro e0 w0 ⟨rfl, hx0⟩
    have k0 : Ext w w0 := Ext.trans ((by repeat (first | assumption | exact Ext.refl _ | refine Ext.alloc ?_ _ | refine Ext.drew ?_ | refine Ext.drewN ?_ _ | refine Ext.setCell ?_ (by first | (simp; done) | omega | (simp; omega)) _ | refine Ext.trans (by assumption) ?_))) hx0
    have t0 := hx0.cell (p := ⟨w.heap.size, 0, none⟩) (v := .slice tA tn tc) (by first | (simp; done) | (simp (maxDischargeDepth := 7) [go_sem]; done))
    have v0 := hx0.cell (p := ⟨w.heap.size + 1, 0, none⟩) (v := .slice vA vn vc) (by first | (simp; done) | (simp (maxDischargeDepth := 7) [go_sem]; done))
    have v1 := hx0.cell (p := ⟨w.heap.size + 1, 1, none⟩) (v := .int .u64 vo) (by first | (simp; done) | (simp (maxDischargeDepth := 7) [go_sem]; done))
    clear HAW hx0
    go_wp2_with fail
    refine (HO.out _ k0).mono ?_
    rintro e w1 ⟨⟨x, y, rfl, ⟨A1, n1, c1, rfl, h1⟩, ⟨A2, n2, c2, rfl, h2⟩⟩, hx1⟩
    have k1 := k0.trans hx1
    replace t0 := hx1.cell t0
    replace v0 := hx1.cell v0
    replace v1 := hx1.cell v1
    clear hx1 HO k0
    go_wp2
    go_ret
    exact ⟨rfl, k1⟩
  | true =>
    have hq : Delta.fit2 t v vo v vo l = true := by unfold Delta.fit2; rw [hf]; rfl
    have hroom := ht.row.room
    have htl := ht.len
    have hvl := hv.len
    have hmk := fun W => make_zer tn hroom W
    have e1 : Delta.cameV t v vo v vo l = List.replicate tn (0 : Int) := by unfold Delta.cameV; rw [hq, if_pos rfl, Delta.sumV_self, htl]
    have e2 : Delta.wentV t v vo v vo l = List.replicate tn (0 : Int) := by unfold Delta.wentV; rw [hq, if_pos rfl, Delta.sumV_self, htl]
    rw [hq, e1, e2] at HO
    have hwz : ∀ x ∈ List.replicate tn (0 : Int), (Lit.int .u64 x).wf = true := fun x hx => by rw [(List.mem_replicate.1 hx).2]; decide
    have HZ := Lib.hid (fun (W : World) (B : Nat) (hB : B = W.heap.size) => (by have h := ints_at' (w := W) (B := B) (k := .u64) (e := 26) (List.replicate tn (0 : Int)) hwz (by simpa using hroom) hB; rw [List.length_replicate, show ((List.replicate tn (0 : Int)).map (Value.int .u64)).toArray = Array.replicate tn (.int .u64 0) by simp] at h; exact h : Ints (W.alloc (.cells (Array.replicate tn (.int .u64 0)) 26)) .u64 (some ⟨B, 0, none⟩) tn tn (List.replicate tn (0 : Int))))
    clear hq e1 e2 hwz
    go_enter Try.func4, Try.ntmps4
    go_wp2_with fail
    refine (HAW.out _).mono ?_
    rintro e0 w0 ⟨rfl, hx0⟩
    have k0 : Ext w w0 := Ext.trans ((by repeat (first | assumption | exact Ext.refl _ | refine Ext.alloc ?_ _ | refine Ext.drew ?_ | refine Ext.drewN ?_ _ | refine Ext.setCell ?_ (by first | (simp; done) | omega | (simp; omega)) _ | refine Ext.trans (by assumption) ?_))) hx0
    have t0 := hx0.cell (p := ⟨w.heap.size, 0, none⟩) (v := .slice tA tn tc) (by first | (simp; done) | (simp (maxDischargeDepth := 7) [go_sem]; done))
    have v0 := hx0.cell (p := ⟨w.heap.size + 1, 0, none⟩) (v := .slice vA vn vc) (by first | (simp; done) | (simp (maxDischargeDepth := 7) [go_sem]; done))
    have v1 := hx0.cell (p := ⟨w.heap.size + 1, 1, none⟩) (v := .int .u64 vo) (by first | (simp; done) | (simp (maxDischargeDepth := 7) [go_sem]; done))
    clear HAW hx0
    go_wp2_with fail
    refine (HO.out _ k0).mono ?_
    rintro e w1 ⟨⟨x, y, rfl, ⟨A1, n1, c1, rfl, h1⟩, ⟨A2, n2, c2, rfl, h2⟩⟩, hx1⟩
    have k1 := k0.trans hx1
    replace t0 := hx1.cell t0
    replace v0 := hx1.cell v0
    replace v1 := hx1.cell v1
    clear hx1 HO k0
    go_wp2_with fail
    refine (same_true _ _ _ _ _ _ _ _ (h1.ext ((by repeat (first | assumption | exact Ext.refl _ | refine Ext.alloc ?_ _ | refine Ext.drew ?_ | refine Ext.drewN ?_ _ | refine Ext.setCell ?_ (by first | (simp; done) | omega | (simp; omega)) _ | refine Ext.trans (by assumption) ?_)))) (HZ.out w1 w1.heap.size rfl)).mono ?_
    rintro e' w2 ⟨rfl, hx2⟩
    have k2 : Ext w1 w2 := Ext.trans ((by repeat (first | assumption | exact Ext.refl _ | refine Ext.alloc ?_ _ | refine Ext.drew ?_ | refine Ext.drewN ?_ _ | refine Ext.setCell ?_ (by first | (simp; done) | omega | (simp; omega)) _ | refine Ext.trans (by assumption) ?_))) hx2
    have hz := (HZ.out w1 w1.heap.size rfl).ext hx2
    go_wp2_with fail
    refine (same_true _ _ _ _ _ _ _ _ (h2.ext k2) hz).mono ?_
    rintro e' w3 ⟨rfl, hx3⟩
    have k3 := k2.trans hx3
    replace t0 := k3.cell t0
    replace v0 := k3.cell v0
    replace v1 := k3.cell v1
    have kk := k1.trans k3
    clear h1 h2 hz k1 k2 k3 hx2 hx3 HZ hmk
    by_cases hi0 : i < 0
    · go_wp2
      go_ret
      exact ⟨rfl, kk⟩
    by_cases hin : (vn : Int) ≤ i
    · go_wp2
      go_ret
      exact ⟨rfl, kk⟩
    obtain ⟨k, rfl⟩ := Int.eq_ofNat_of_zero_le (show 0 ≤ i by omega)
    have hk : k < vn := by omega
    have hkv : k < v.length := by omega
    obtain ⟨b, off, rfl, hr, hok⟩ := (hv.ext kk).at' hk
    have hgk : (k : Int) < vn := by omega
    have q0 := rangeAt_head hr (j := 0) (v := .bool (v.getD k Lat.none).has) rfl
    have q33 := rangeAt_head hr (Lat.at33 hok)
    rw [Nat.add_zero] at q0
    cases hh : (v.getD k Lat.none).has with
    | false =>
      rw [hh] at q0
      clear hr hok
      go_wp2
      go_ret
      exact ⟨rfl, kk⟩
    | true =>
      by_cases hep : e ≤ (v.getD k Lat.none).epoch
      · rw [hh] at q0
        generalize (v.getD k Lat.none).epoch = y at *
        have g4 : (e : Int) ≤ y := by omega
        clear hr hok
        go_wp2
        go_ret
        exact ⟨rfl, kk⟩
      · rw [hh] at q0
        have hlt : (v.getD k Lat.none).epoch < e := by omega
        obtain ⟨hput, hmay⟩ := Delta.put_tk ((Delta.fitV_iff.1 hf).2.1) hkv hh hlt
        obtain ⟨f1, f2, f3, f4⟩ := Delta.fitV_iff.1 hf
        obtain ⟨s1, s2, s3⟩ := Stake.mayV_iff.1 f3
        have hll := hl.len
        have hfit2 : Delta.fit2 t v vo (Delta.tk v k e) vo l = true := by
          unfold Delta.fit2
          rw [hf, Delta.fitV_iff.2 ⟨f1, hmay, f3, by unfold Delta.tk; rw [List.length_set]; exact f4⟩]
          rfl
        have HP := Lib.hid (fun W (kx : Ext w W) => (by have q := put_fresh _ vn vc vo hvo v k (v.getD k Lat.none).root hok.1 e he W (hv.ext kx); rw [hput] at q; exact q : Calls Try.prog 15 #[.agg #[.slice (some ⟨b, off, none⟩) vn vc, .int .u64 vo], .int .i64 k, .agg (rootC (v.getD k Lat.none).root).toArray, .int .u64 e] W fun e' w' => (∃ A2 c2, e' = .returned (.tuple #[.agg #[.slice A2 vn c2, .int .u64 vo], .int .i64 1, .int .i64 0]) ∧ VL w' A2 vn c2 (Delta.tk v k e) ∧ ∀ ad, A2 = some ad → W.heap.size ≤ ad.block) ∧ Ext W w'))
        have HO2 := Lib.hid (fun uA uc W (kx : Ext w W) (g : VL W uA vn uc (Delta.tk v k e)) => (by have q := dof_any tA tn tc t _ vn vc vo v hvo uA vn uc vo (Delta.tk v k e) hvo LA ln lc l W (ht.ext kx) (hv.ext kx) g (hl.ext kx); rw [hfit2, show Delta.cameV t v vo (Delta.tk v k e) vo l = Delta.sumV t (Delta.tk v k e) v l by unfold Delta.cameV; rw [hfit2, if_pos rfl], show Delta.wentV t v vo (Delta.tk v k e) vo l = Delta.sumV t (Delta.tk v k e) v l by unfold Delta.wentV; rw [hfit2, if_pos rfl]; exact Delta.sumV_tk hkv hh hlt] at q; exact q : Calls Try.prog 12 #[.agg #[.slice tA tn tc], .agg #[.slice (some ⟨b, off, none⟩) vn vc, .int .u64 vo], .agg #[.slice uA vn uc, .int .u64 vo], .slice LA ln lc] W fun e' w' => (∃ x y, e' = .returned (.tuple #[x, y, .bool true]) ∧ IsInts w' .u64 x (Delta.sumV t (Delta.tk v k e) v l) ∧ IsInts w' .u64 y (Delta.sumV t (Delta.tk v k e) v l)) ∧ Ext W w'))
        have HF := Lib.hid (fun W (kx : Ext w W) => find_any tA tn tc t (v.getD k Lat.none).root hok.1 W (ht.ext kx))
        have HV := Lib.hid (fun W (kx : Ext w W) => (hv.ext kx).at' hk)
        have HL := Lib.hid (fun W (kx : Ext w W) => hl.ext kx)
        have hsl : (Delta.sumV t (Delta.tk v k e) v l).length = tn := by rw [Delta.sumV_len, htl]
        have hkl : k < ln := by omega
        have HIN := Lib.hid (fun hin => Delta.nth_tk (T := t) (l := l) hkv hh hlt hin)
        have HFI := Lib.hid (fun (hin : (v.getD k Lat.none).root ∈ Tree.roots t) => findV_in f1 hin)
        have HPL : Hid (Delta.plc t v k = (Tree.roots t).idxOf (v.getD k Lat.none).root) := rfl
        have hi32 : (Try.prog.info? 38).map (·.size) = some (rootC (v.getD k Lat.none).root).length := by rw [rootC_len hok.1]; kernel_rfl
        have rxr := rangeAt_part hr (k := 1) rfl
        have g4 : ¬ (e : Int) ≤ (v.getD k Lat.none).epoch := by omega
        clear hput hmay f1 f2 f3 f4 s1 s2 s3 hfit2 hf hep hlt ht hv hl hr hh
        generalize v.getD k Lat.none = x at *
        generalize Delta.sumV t (Delta.tk v k e) v l = sv at *
        generalize Delta.tk v k e = tv at *
        go_upto_region 12 with fail
        have CV := Lib.hid (And.intro v0 v1)
        have CT := Lib.hid t0
        have RX := Lib.hid rxr
        go_cut [18] (fun p wx => ∃ B A2 c2, p = .pointer (some ⟨B, 0, none⟩) ∧ wx.cell? ⟨B, 0, none⟩ = some (.slice A2 vn c2) ∧ wx.cell? ⟨B, 1, none⟩ = some (.int .u64 vo) ∧ VL wx A2 vn c2 tv ∧ Ext w3 wx)
        case first =>
          rename_i hJ hMet
          clear t0 v0 v1 rxr q0 q33 HO2 HF HV HL HIN HFI
          refine wp_region_noPanic ?_
          refine wp_region_held_drew (S := fun w' => Ext w3 w') (by kernel_rfl) ((Ext.refl _).drew) (fun hHeld => ?_)
          change wpAnyH _ _ _ _ _ 18 (Array.replicate 18 false) _ _
          refine wpAnyH_take (i := 0) (v := Value.agg #[.slice (some ⟨b, off, none⟩) vn vc, .int .u64 vo]) rfl (by kernel_rfl) (by kernel_rfl) (by kernel_rfl) (fun _ _ _ h => h) (Or.inl ⟨by rfl, fun _ hSw => by have d0 := Ext.cell hSw CV.out.1; have d1 := Ext.cell hSw CV.out.2; first | (go_simp; done) | (go_simp; with_reducible rfl)⟩) hHeld ?_
          (try simp only [List.getElem_toArray, List.getElem_cons_zero, List.getElem_cons_succ, Act.put, List.setIfInBounds_toArray, List.set_cons_zero, List.set_cons_succ])
          refine wpAnyH_take (i := 1) (v := Value.int .i64 (k : Nat)) rfl (by kernel_rfl) (by kernel_rfl) (by kernel_rfl) (fun _ _ _ h => h) (Or.inl ⟨by rfl, fun _ hSw => by first | (go_simp; done) | (go_simp; with_reducible rfl)⟩) hHeld ?_
          (try simp only [List.getElem_toArray, List.getElem_cons_zero, List.getElem_cons_succ, Act.put, List.setIfInBounds_toArray, List.set_cons_zero, List.set_cons_succ])
          refine wpAnyH_take (i := 2) (v := Value.pointer (some ⟨w.heap.size + 1, 0, none⟩)) rfl (by kernel_rfl) (by kernel_rfl) (by kernel_rfl) (fun _ _ _ h => h) (Or.inl ⟨by rfl, fun _ hSw => by first | (go_simp; done) | (go_simp; with_reducible rfl)⟩) hHeld ?_
          (try simp only [List.getElem_toArray, List.getElem_cons_zero, List.getElem_cons_succ, Act.put, List.setIfInBounds_toArray, List.set_cons_zero, List.set_cons_succ])
          refine wpAnyH_take (i := 3) (v := Value.slice (some ⟨b, off, none⟩) vn vc) rfl (by kernel_rfl) (by kernel_rfl) (by kernel_rfl) (fun _ _ _ h => h) (Or.inl ⟨by rfl, fun _ hSw => by have d0 := Ext.cell hSw CV.out.1; have d1 := Ext.cell hSw CV.out.2; first | (go_simp; done) | (go_simp; with_reducible rfl)⟩) hHeld ?_
          (try simp only [List.getElem_toArray, List.getElem_cons_zero, List.getElem_cons_succ, Act.put, List.setIfInBounds_toArray, List.set_cons_zero, List.set_cons_succ])
          refine wpAnyH_take (i := 4) (v := Value.int .i64 (k : Nat)) rfl (by kernel_rfl) (by kernel_rfl) (by kernel_rfl) (fun _ _ _ h => h) (Or.inl ⟨by rfl, fun _ hSw => by first | (go_simp; done) | (go_simp; with_reducible rfl)⟩) hHeld ?_
          (try simp only [List.getElem_toArray, List.getElem_cons_zero, List.getElem_cons_succ, Act.put, List.setIfInBounds_toArray, List.set_cons_zero, List.set_cons_succ])
          refine wpAnyH_take (i := 5) (v := Value.pointer (some ⟨b, off + k * 34, none⟩)) rfl (by kernel_rfl) (by kernel_rfl) (by kernel_rfl) (fun _ _ _ h => h) (Or.inl ⟨by rfl, fun _ hSw => by first | (go_simp; done) | (go_simp; with_reducible rfl)⟩) hHeld ?_
          (try simp only [List.getElem_toArray, List.getElem_cons_zero, List.getElem_cons_succ, Act.put, List.setIfInBounds_toArray, List.set_cons_zero, List.set_cons_succ])
          refine wpAnyH_take (i := 6) (v := Value.pointer (some ⟨b, off + k * 34 + 1, none⟩)) rfl (by kernel_rfl) (by kernel_rfl) (by kernel_rfl) (fun _ _ _ h => h) (Or.inl ⟨by rfl, fun _ hSw => by first | (go_simp; done) | (go_simp; with_reducible rfl)⟩) hHeld ?_
          (try simp only [List.getElem_toArray, List.getElem_cons_zero, List.getElem_cons_succ, Act.put, List.setIfInBounds_toArray, List.set_cons_zero, List.set_cons_succ])
          refine wpAnyH_take (i := 7) (v := .agg (rootC x.root).toArray) rfl (by kernel_rfl) (by kernel_rfl) (by kernel_rfl) (fun _ _ _ h => h) (yieldsIf_load_mid (by rfl) 38 (.tmp 100) (by rfl) b (off + k * 34 + 1) (by go_simp) (rootC x.root) _ (fun w hw => rangeAt_ext RX.out hw) Try.underlying38 (by rfl) hi32) hHeld ?_
          (try simp only [List.getElem_toArray, List.getElem_cons_zero, List.getElem_cons_succ, Act.put, List.setIfInBounds_toArray, List.set_cons_zero, List.set_cons_succ])
          refine wpAnyH_take (i := 8) (v := Value.int .u64 (e : Nat)) rfl (by kernel_rfl) (by kernel_rfl) (by kernel_rfl) (fun _ _ _ h => h) (Or.inl ⟨by rfl, fun _ hSw => by first | (go_simp; done) | (go_simp; with_reducible rfl)⟩) hHeld ?_
          (try simp only [List.getElem_toArray, List.getElem_cons_zero, List.getElem_cons_succ, Act.put, List.setIfInBounds_toArray, List.set_cons_zero, List.set_cons_succ])
          refine wpAnyH_ready (rs := [9, 14]) (by kernel_rfl) (by simp) ?_
          refine AllReadyH.cons rfl (fun K hK => ?_) ?_
          · go_simp
            refine (HP.out _ (Ext.trans kk ((by repeat (first | assumption | exact Ext.refl _ | refine Ext.alloc ?_ _ | refine Ext.drew ?_ | refine Ext.drewN ?_ _ | refine Ext.setCell ?_ (by first | (simp; done) | omega | (simp; omega)) _ | refine Ext.trans (by assumption) ?_))))).mono ?_
            rintro e' wa ⟨⟨A2, c2, rfl, h2, hf2⟩, hxa⟩
            have ka : Ext w3 wa := Ext.trans ((by repeat (first | assumption | exact Ext.refl _ | refine Ext.alloc ?_ _ | refine Ext.drew ?_ | refine Ext.drewN ?_ _ | refine Ext.setCell ?_ (by first | (simp; done) | omega | (simp; omega)) _ | refine Ext.trans (by assumption) ?_))) hxa
            refine hK.out _ _ ka (fun hHeld => ?_)
            clear hK K
            (try simp only [List.getElem_toArray, List.getElem_cons_zero, List.getElem_cons_succ, Act.put, List.setIfInBounds_toArray, List.set_cons_zero, List.set_cons_succ])
            refine wpAnyH_take (i := 10) (v := Value.tuple #[.agg #[.slice A2 vn c2, .int .u64 vo], .int .i64 1, .int .i64 0]) rfl (by kernel_rfl) (by kernel_rfl) (by kernel_rfl) (fun _ _ _ h => h) (Or.inl ⟨by rfl, fun _ hSw => by first | (go_simp; done) | (go_simp; with_reducible rfl)⟩) hHeld ?_
            (try simp only [List.getElem_toArray, List.getElem_cons_zero, List.getElem_cons_succ, Act.put, List.setIfInBounds_toArray, List.set_cons_zero, List.set_cons_succ])
            refine wpAnyH_take (i := 11) (v := Value.agg #[.slice A2 vn c2, .int .u64 vo]) rfl (by kernel_rfl) (by kernel_rfl) (by kernel_rfl) (fun _ _ _ h => h) (Or.inl ⟨by rfl, fun _ hSw => by first | (go_simp; done) | (go_simp; with_reducible rfl)⟩) hHeld ?_
            (try simp only [List.getElem_toArray, List.getElem_cons_zero, List.getElem_cons_succ, Act.put, List.setIfInBounds_toArray, List.set_cons_zero, List.set_cons_succ])
            refine wpAnyH_take (i := 12) (v := Value.int .i64 1) rfl (by kernel_rfl) (by kernel_rfl) (by kernel_rfl) (fun _ _ _ h => h) (Or.inl ⟨by rfl, fun _ hSw => by first | (go_simp; done) | (go_simp; with_reducible rfl)⟩) hHeld ?_
            (try simp only [List.getElem_toArray, List.getElem_cons_zero, List.getElem_cons_succ, Act.put, List.setIfInBounds_toArray, List.set_cons_zero, List.set_cons_succ])
            refine wpAnyH_take (i := 13) (v := Value.int .i64 0) rfl (by kernel_rfl) (by kernel_rfl) (by kernel_rfl) (fun _ _ _ h => h) (Or.inl ⟨by rfl, fun _ hSw => by first | (go_simp; done) | (go_simp; with_reducible rfl)⟩) hHeld ?_
            (try simp only [List.getElem_toArray, List.getElem_cons_zero, List.getElem_cons_succ, Act.put, List.setIfInBounds_toArray, List.set_cons_zero, List.set_cons_succ])
            refine wpAnyH_ready (rs := [14]) (by kernel_rfl) (by simp) ?_
            refine AllReadyH.cons rfl (fun K hK => ?_) ?_
            · go_simp
              refine hK.out _ _ (ka.alloc _) (fun hHeld => ?_)
              clear hK K
              (try simp only [List.getElem_toArray, List.getElem_cons_zero, List.getElem_cons_succ, Act.put, List.setIfInBounds_toArray, List.set_cons_zero, List.set_cons_succ])
              refine wpAnyH_ready (rs := [15]) (by kernel_rfl) (by simp) ?_
              refine AllReadyH.cons rfl (fun K hK => ?_) ?_
              · go_simp
                refine hK.out _ _ (Ext.trans ka ((by repeat (first | assumption | exact Ext.refl _ | refine Ext.alloc ?_ _ | refine Ext.drew ?_ | refine Ext.drewN ?_ _ | refine Ext.setCell ?_ (by first | (simp; done) | omega | (simp; omega)) _ | refine Ext.trans (by assumption) ?_)))) (fun hHeld => ?_)
                clear hK K
                (try simp only [List.getElem_toArray, List.getElem_cons_zero, List.getElem_cons_succ, Act.put, List.setIfInBounds_toArray, List.set_cons_zero, List.set_cons_succ])
                refine wpAnyH_take (i := 16) (v := Value.int .i64 1) rfl (by kernel_rfl) (by kernel_rfl) (by kernel_rfl) (fun _ _ _ h => h) (Or.inl ⟨by rfl, fun _ hSw => by first | (go_simp; done) | (go_simp; with_reducible rfl)⟩) hHeld ?_
                (try simp only [List.getElem_toArray, List.getElem_cons_zero, List.getElem_cons_succ, Act.put, List.setIfInBounds_toArray, List.set_cons_zero, List.set_cons_succ])
                refine wpAnyH_take (i := 17) (v := Value.int .i64 0) rfl (by kernel_rfl) (by kernel_rfl) (by kernel_rfl) (fun _ _ _ h => h) (Or.inl ⟨by rfl, fun _ hSw => by first | (go_simp; done) | (go_simp; with_reducible rfl)⟩) hHeld ?_
                (try simp only [List.getElem_toArray, List.getElem_cons_zero, List.getElem_cons_succ, Act.put, List.setIfInBounds_toArray, List.set_cons_zero, List.set_cons_succ])
                refine wpAnyH_done (by kernel_rfl) ?_ _
                refine NoPanic.normal ?_
                refine hMet _ _ ?_
                go_meet
                exact ⟨_, A2, c2, rfl, by simp, by simp, h2.ext ((by repeat (first | assumption | exact Ext.refl _ | refine Ext.alloc ?_ _ | refine Ext.drew ?_ | refine Ext.drewN ?_ _ | refine Ext.setCell ?_ (by first | (simp; done) | omega | (simp; omega)) _ | refine Ext.trans (by assumption) ?_))), Ext.trans ka ((by repeat (first | assumption | exact Ext.refl _ | refine Ext.alloc ?_ _ | refine Ext.drew ?_ | refine Ext.drewN ?_ _ | refine Ext.setCell ?_ (by first | (simp; done) | omega | (simp; omega)) _ | refine Ext.trans (by assumption) ?_)))⟩
              · exact AllReadyH.nil
            · exact AllReadyH.nil
          refine AllReadyH.cons rfl (fun K hK => ?_) ?_
          · go_simp
            have kb : Ext w3 (w3.drew.alloc (.cells #[.slice none 0 0, .int .u64 0] 28)) := ((Ext.refl _).drew).alloc _
            refine hK.out _ _ kb (fun hHeld => ?_)
            clear hK K
            (try simp only [List.getElem_toArray, List.getElem_cons_zero, List.getElem_cons_succ, Act.put, List.setIfInBounds_toArray, List.set_cons_zero, List.set_cons_succ])
            refine wpAnyH_ready (rs := [9]) (by kernel_rfl) (by simp) ?_
            refine AllReadyH.cons rfl (fun K hK => ?_) ?_
            · go_simp
              refine (HP.out _ (Ext.trans kk kb)).mono ?_
              rintro e' wa ⟨⟨A2, c2, rfl, h2, hf2⟩, hxa⟩
              have ka : Ext w3 wa := Ext.trans kb hxa
              have z0 : wa.cell? ⟨w3.heap.size, 0, none⟩ = some (.slice none 0 0) := hxa.cell (alloc2 w3.drew _ _ _).1
              have z1 : wa.cell? ⟨w3.heap.size, 1, none⟩ = some (.int .u64 0) := hxa.cell (alloc2 w3.drew _ _ _).2.1
              have zf : ∀ o, wa.frozen? ⟨w3.heap.size, o, none⟩ = false := fun o => (hxa.out.frozen (p := ⟨w3.heap.size, o, none⟩) (by show w3.drew.heap.size < _; simp)).trans ((alloc2 w3.drew _ _ _).2.2 o)
              refine hK.out _ _ ka (fun hHeld => ?_)
              clear hK K
              (try simp only [List.getElem_toArray, List.getElem_cons_zero, List.getElem_cons_succ, Act.put, List.setIfInBounds_toArray, List.set_cons_zero, List.set_cons_succ])
              refine wpAnyH_take (i := 10) (v := Value.tuple #[.agg #[.slice A2 vn c2, .int .u64 vo], .int .i64 1, .int .i64 0]) rfl (by kernel_rfl) (by kernel_rfl) (by kernel_rfl) (fun _ _ _ h => h) (Or.inl ⟨by rfl, fun _ hSw => by first | (go_simp; done) | (go_simp; with_reducible rfl)⟩) hHeld ?_
              (try simp only [List.getElem_toArray, List.getElem_cons_zero, List.getElem_cons_succ, Act.put, List.setIfInBounds_toArray, List.set_cons_zero, List.set_cons_succ])
              refine wpAnyH_take (i := 11) (v := Value.agg #[.slice A2 vn c2, .int .u64 vo]) rfl (by kernel_rfl) (by kernel_rfl) (by kernel_rfl) (fun _ _ _ h => h) (Or.inl ⟨by rfl, fun _ hSw => by first | (go_simp; done) | (go_simp; with_reducible rfl)⟩) hHeld ?_
              (try simp only [List.getElem_toArray, List.getElem_cons_zero, List.getElem_cons_succ, Act.put, List.setIfInBounds_toArray, List.set_cons_zero, List.set_cons_succ])
              refine wpAnyH_take (i := 12) (v := Value.int .i64 1) rfl (by kernel_rfl) (by kernel_rfl) (by kernel_rfl) (fun _ _ _ h => h) (Or.inl ⟨by rfl, fun _ hSw => by first | (go_simp; done) | (go_simp; with_reducible rfl)⟩) hHeld ?_
              (try simp only [List.getElem_toArray, List.getElem_cons_zero, List.getElem_cons_succ, Act.put, List.setIfInBounds_toArray, List.set_cons_zero, List.set_cons_succ])
              refine wpAnyH_take (i := 13) (v := Value.int .i64 0) rfl (by kernel_rfl) (by kernel_rfl) (by kernel_rfl) (fun _ _ _ h => h) (Or.inl ⟨by rfl, fun _ hSw => by first | (go_simp; done) | (go_simp; with_reducible rfl)⟩) hHeld ?_
              (try simp only [List.getElem_toArray, List.getElem_cons_zero, List.getElem_cons_succ, Act.put, List.setIfInBounds_toArray, List.set_cons_zero, List.set_cons_succ])
              refine wpAnyH_ready (rs := [15]) (by kernel_rfl) (by simp) ?_
              refine AllReadyH.cons rfl (fun K hK => ?_) ?_
              · go_simp
                have kz : Ext w3 ((wa.setCell ⟨w3.heap.size, 0, none⟩ (.slice A2 vn c2)).setCell ⟨w3.heap.size, 1, none⟩ (.int .u64 vo)) := (ka.setCell (p := ⟨w3.heap.size, 0, none⟩) (Nat.le_refl _) _).setCell (p := ⟨w3.heap.size, 1, none⟩) (Nat.le_refl _) _
                refine hK.out _ _ kz (fun hHeld => ?_)
                clear hK K
                (try simp only [List.getElem_toArray, List.getElem_cons_zero, List.getElem_cons_succ, Act.put, List.setIfInBounds_toArray, List.set_cons_zero, List.set_cons_succ])
                refine wpAnyH_take (i := 16) (v := Value.int .i64 1) rfl (by kernel_rfl) (by kernel_rfl) (by kernel_rfl) (fun _ _ _ h => h) (Or.inl ⟨by rfl, fun _ hSw => by first | (go_simp; done) | (go_simp; with_reducible rfl)⟩) hHeld ?_
                (try simp only [List.getElem_toArray, List.getElem_cons_zero, List.getElem_cons_succ, Act.put, List.setIfInBounds_toArray, List.set_cons_zero, List.set_cons_succ])
                refine wpAnyH_take (i := 17) (v := Value.int .i64 0) rfl (by kernel_rfl) (by kernel_rfl) (by kernel_rfl) (fun _ _ _ h => h) (Or.inl ⟨by rfl, fun _ hSw => by first | (go_simp; done) | (go_simp; with_reducible rfl)⟩) hHeld ?_
                (try simp only [List.getElem_toArray, List.getElem_cons_zero, List.getElem_cons_succ, Act.put, List.setIfInBounds_toArray, List.set_cons_zero, List.set_cons_succ])
                refine wpAnyH_done (by kernel_rfl) ?_ _
                refine NoPanic.normal ?_
                refine hMet _ _ ?_
                go_meet
                have hne : ∀ ad, A2 = some ad → ad.block ≠ w3.heap.size := fun ad e => by have := hf2 ad e; simp at this; omega
                refine ⟨_, A2, c2, rfl, ?_, ?_, (h2.setCell (p := ⟨w3.heap.size, 0, none⟩) hne _).setCell (p := ⟨w3.heap.size, 1, none⟩) hne _, kz⟩
                · exact (World.cell?_setCell_other _ _ _ _ (by simp)).trans (World.cell?_setCell_same' _ _ _ (by rw [z0]; rfl))
                · exact World.cell?_setCell_same' _ _ _ (by rw [World.cell?_setCell_other _ _ _ _ (by simp), z1]; rfl)
              · exact AllReadyH.nil
            · exact AllReadyH.nil
          · exact AllReadyH.nil
        case rest =>
          obtain ⟨B, A2, c2, rfl, p0, p1, h2, hxc⟩ := hcut
          replace kk := kk.trans hxc
          replace t0 := hxc.cell t0
          replace v0 := hxc.cell v0
          replace v1 := hxc.cell v1
          have rxr' := rangeAt_ext RX.out hxc
          clear CV CT RX rxr q0 q33 HP hxc
          generalize hw4 : wc = w4 at *
          clear hw4
          go_wp2_with fail
          refine (HO2.out _ _ _ kk h2).mono ?_
          rintro e' w5 ⟨⟨x1, y1, rfl, ⟨A3, n3, c3, rfl, h3⟩, ⟨A4, n4, c4, rfl, h4⟩⟩, hx5⟩
          obtain rfl : tn = n3 := hsl.symm.trans h3.len
          replace kk := kk.trans hx5
          replace t0 := hx5.cell t0
          replace v0 := hx5.cell v0
          replace v1 := hx5.cell v1
          replace rxr' := rangeAt_ext rxr' hx5
          have H3 := Lib.hid (fun W (kx : Ext w5 W) => h3.ext kx)
          clear p0 p1 h2 hx5 HO2
          have H34 := Lib.hid (same_true sv A3 tn c3 A4 n4 c4 w5 h3 h4)
          clear h3 h4
          go_wp2_with fail
          refine H34.out.mono ?_
          rintro e' w6 ⟨rfl, hx6⟩
          replace kk := kk.trans hx6
          replace t0 := hx6.cell t0
          replace v0 := hx6.cell v0
          replace v1 := hx6.cell v1
          replace rxr' := rangeAt_ext rxr' hx6
          have h3 := H3.out _ hx6
          clear H34 H3 hx6
          by_cases hin : x.root ∈ Tree.roots t
          · obtain ⟨hp, hnth⟩ := HIN.out hin
            have hfi := HFI.out hin
            rw [← HPL.out] at hfi
            rw [hfi] at HF
            clear hfi HIN HFI HPL hin
            rw [htl] at hp
            generalize Delta.plc t v k = p at *
            have gp : (p : Int) < tn := by omega
            have gp0 : decide ((p : Int) < 0) = false := decide_eq_false (by omega)
            obtain ⟨b3, o3, rfl, hc3⟩ := h3.cells (by omega)
            have dx := hc3 p hp
            rw [hnth] at dx
            have hli := HL.out _ kk
            have hn64 := (hli.nat64 k).1
            obtain ⟨bl, ol, rfl, hcl⟩ := hli.cells (by omega)
            have dl := hcl k hkl
            rw [hn64] at dl
            clear hc3 hcl hli hn64 hnth h3
            generalize Weight.at' l k = y at *
            have gkl : (k : Int) < ln := by omega
            go_wp2
            have z0 := fun p => cell_in t0 p
            have z1 := fun p => cell_in v0 p
            refine wp_region_quiet_below (by kernel_rfl) (by kernel_rfl) ?_
            repeat (first | go_big_quiet_skip | (go_big_quiet_want; first | ((refine quiet_load_mid 38 _ rfl _ _ rfl (rootC x.root) _ (fun W ⟨p, hp⟩ => hp ▸ rangeAt_ext rxr' (ext_regrown _ p)) Try.underlying38 rfl hi32 ?_); (try simp only [Act.put, List.setIfInBounds_toArray, List.set_cons_zero, List.set_cons_succ]); go_big_quiet_on) | (go_big_quiet_op; first | go_big_quiet_on | go_big_quiet_call ((go_at_call 16; exact regrown_ext (HF.out _ (Ext.trans kk (ext_regrown _ _))))))))
            refine wpQuiet_nil ?_
            intro _ hw'
            obtain ⟨pq, hw''⟩ := hw'
            subst hw''
            have kq := ext_regrown w6 pq
            clear z0 z1
            replace t0 := kq.cell t0
            replace v0 := kq.cell v0
            replace v1 := kq.cell v1
            replace dx := kq.cell dx
            replace dl := kq.cell dl
            replace kk := kk.trans kq
            clear rxr' HF kq
            generalize hw7 : Go.Sort.grow (redrawn w6 pq.d) pq.os = w7 at *
            clear hw7
            go_wp2
            refine wp_region_quiet_lit (by kernel_rfl) (by kernel_rfl) ?_
            repeat (first | go_big_quiet_skip | (go_big_quiet_want; first | ((fail); (try simp only [Act.put, List.setIfInBounds_toArray, List.set_cons_zero, List.set_cons_succ]); go_big_quiet_on) | (go_big_quiet_op; first | go_big_quiet_on | go_big_quiet_call (fail))))
            refine wpQuiet_nil ?_
            intro _ hw'
            obtain ⟨nq', hw''⟩ := hw'
            subst hw''
            go_wp2
            go_ret
            exact ⟨rfl, kk.drewN _⟩
          · have hfi := findV_out (NS := t) hin
            rw [hfi] at HF
            clear hfi HIN HFI HPL hin
            go_wp2
            have z0 := fun p => cell_in t0 p
            have z1 := fun p => cell_in v0 p
            refine wp_region_quiet_below (by kernel_rfl) (by kernel_rfl) ?_
            repeat (first | go_big_quiet_skip | (go_big_quiet_want; first | ((refine quiet_load_mid 38 _ rfl _ _ rfl (rootC x.root) _ (fun W ⟨p, hp⟩ => hp ▸ rangeAt_ext rxr' (ext_regrown _ p)) Try.underlying38 rfl hi32 ?_); (try simp only [Act.put, List.setIfInBounds_toArray, List.set_cons_zero, List.set_cons_succ]); go_big_quiet_on) | (go_big_quiet_op; first | go_big_quiet_on | go_big_quiet_call ((go_at_call 16; exact regrown_ext (HF.out _ (Ext.trans kk (ext_regrown _ _))))))))
            refine wpQuiet_nil ?_
            intro _ hw'
            obtain ⟨pq, hw''⟩ := hw'
            subst hw''
            have kq := ext_regrown w6 pq
            clear z0 z1
            replace t0 := kq.cell t0
            replace v0 := kq.cell v0
            replace v1 := kq.cell v1
            replace kk := kk.trans kq
            clear rxr' HF kq
            generalize hw7 : Go.Sort.grow (redrawn w6 pq.d) pq.os = w7 at *
            clear hw7
            go_wp2
            refine wp_region_quiet_lit (by kernel_rfl) (by kernel_rfl) ?_
            repeat (first | go_big_quiet_skip | (go_big_quiet_want; first | ((fail); (try simp only [Act.put, List.setIfInBounds_toArray, List.set_cons_zero, List.set_cons_succ]); go_big_quiet_on) | (go_big_quiet_op; first | go_big_quiet_on | go_big_quiet_call (fail))))
            refine wpQuiet_nil ?_
            intro _ hw'
            obtain ⟨nq', hw''⟩ := hw'
            subst hw''
            go_wp2
            go_ret
            exact ⟨rfl, kk.drewN _⟩
set_option maxRecDepth 100000 in
theorem DeltaSame_lifted (os : Os) (started : os.Started) (H : Type) (enc : TypeId × Value → H) :
    ReturnsInHanded {} Try.checked os 4 .any (Rows.deltaSameSpec.pre6 enc Try.prog Try.f4 Rows.deltaSameRow.domain false) (Rows.deltaSameSpec.post enc Try.prog Try.f4 false true false false) := by
  refine returnsInHanded_of_change_sized (C := Try.checked) own started (by kernel_rfl) Try.func4
    (ChangeSpec.witness6 (enc := enc) (C := Try.checked) false ⟨#[], #[.agg #[.slice none 0 0], .agg #[.slice none 0 0, .int .u64 0], .slice none 0 0, .int .i64 0, .int .u64 0], []⟩ 8 (by kernel_rfl) (by kernel_rfl) (by kernel_rfl) (by kernel_rfl)) ?_
  intro W base args ds gs before hval0 hW _hcnd hsz0 _
  have hval : ∀ (j : Nat) t v, Try.f4.params[j]? = some t → args[j]? = some v → Value.okWide Try.prog W .any base t v := hval0
  have hsz : (DataW.weightsEach Try.prog (Try.f4.params.toList ++ Rows.deltaSameSpec.plain.varTypes Try.prog) (ds ++ gs)).all (· ≤ reachBytes) = true := hsz0
  have hW' := hW
  obtain ⟨p, q, hA0, hV, rfl, hfz, hnd⟩ := hW
  have hA : DataW.TrodAll enc Try.prog W 0 (fun _ => true) true Try.f4.params.toList args.toList ds p := hA0
  rw [Try.params4] at hA hval hsz
  obtain ⟨v0, vs0, d0, ds0, p0, q0, hargs, rfl, rfl, h0, r0⟩ := trodAll_cons hA
  obtain ⟨v1, vs1, d1, ds1, p1, q1, rfl, rfl, rfl, h1, r1⟩ := trodAll_cons r0
  obtain ⟨v2, vs2, d2, ds2, p2, q2, rfl, rfl, rfl, h2, r2⟩ := trodAll_cons r1
  obtain ⟨v3, vs3, d3, ds3, p3, q3, rfl, rfl, rfl, h3, r3⟩ := trodAll_cons r2
  obtain ⟨v4, vs4, d4, ds4, p4, q4, rfl, rfl, rfl, h4, r4⟩ := trodAll_cons r3
  obtain ⟨rfl, rfl, rfl⟩ := trodAll_nil r4
  obtain rfl : args = #[v0, v1, v2, v3, v4] := by cases args; simp_all
  obtain ⟨rfl, rfl⟩ := trodVars_none hV
  have h0k := h0
  have h1k := h1
  have h2k := h2
  have h3k := h3
  have h4k := h4
  have hlt0 : ∀ x ∈ p0, x.block < W.heap.size := fun x hx => by have := hW'.lt x (by simp [hx]); simpa using this
  have hlt1 : ∀ x ∈ p1, x.block < W.heap.size := fun x hx => by have := hW'.lt x (by simp [hx]); simpa using this
  have hlt2 : ∀ x ∈ p2, x.block < W.heap.size := fun x hx => by have := hW'.lt x (by simp [hx]); simpa using this
  have hlt3 : ∀ x ∈ p3, x.block < W.heap.size := fun x hx => by have := hW'.lt x (by simp [hx]); simpa using this
  have hlt4 : ∀ x ∈ p4, x.block < W.heap.size := fun x hx => by have := hW'.lt x (by simp [hx]); simpa using this
  obtain ⟨tA, tn, tc, t, rfl, ht⟩ := open_tree (hval 0 24 v0 rfl rfl) h0 hsz (j := 0) rfl rfl
  obtain ⟨vA, vn, vc, v, vo, rfl, hv, hov⟩ := open_votes (hval 1 28 v1 rfl rfl) h1 hsz (j := 1) rfl rfl
  obtain ⟨bal, balA, baln, balc, rfl, hbal⟩ := open_Ints Try.underlying29 Try.underlying26 (by kernel_rfl) (by kernel_rfl) (hval 2 29 v2 rfl rfl) h2 hsz (j := 2) rfl rfl
  obtain ⟨i, rfl, hi1, hi2⟩ := open_I64 Try.underlying3 (hval 3 3 v3 rfl rfl) h3
  obtain ⟨epoch, rfl, hepoch⟩ := open_U64 Try.underlying26 (hval 4 26 v4 rfl rfl) h4
  clear hA0 hval0
  simp only [List.append_nil] at hW'
  refine (DeltaSame_walk tA tn tc t ht vA vn vc v vo hov hv balA baln balc bal hbal i hi1 hi2 epoch hepoch (w := W)).mono fun e W' ⟨he, hg⟩ => ?_
  subst he
  exact ⟨_, rfl, post_law (pa := p0 ++ (p1 ++ (p2 ++ (p3 ++ (p4 ++ []))))) (pv := []) hW' (fun _ _ _ => (trodAll_cons_mk (shut_bool Try.underlying4 _) trodAll_mk0))
    (trodAll_cons_mk (Below.trod laidOut (by kernel_rfl) (of_decide_eq_true (by kernel_rfl)) h0k hg.out hlt0) (trodAll_cons_mk (Below.trod laidOut (by kernel_rfl) (of_decide_eq_true (by kernel_rfl)) h1k hg.out hlt1) (trodAll_cons_mk (Below.trod laidOut (by kernel_rfl) (of_decide_eq_true (by kernel_rfl)) h2k hg.out hlt2) (trodAll_cons_mk (Below.trod laidOut (by kernel_rfl) (of_decide_eq_true (by kernel_rfl)) h3k hg.out hlt3) (trodAll_cons_mk (Below.trod laidOut (by kernel_rfl) (of_decide_eq_true (by kernel_rfl)) h4k hg.out hlt4) trodAll_mk0))))) rfl (by simp) hg⟩
theorem DeltaSame_holds : Rows.DeltaSameSaid :=
  OpenClaim.holds_of_wide 4 Try.f4 rfl rfl rfl rfl rfl rfl rfl ⟨rfl, rfl, rfl, rfl, rfl⟩ rfl rfl rfl rfl rfl (by kernel_rfl) Try.func4 (by kernel_rfl)
    (of_decide_eq_true (by kernel_rfl)) (by unfold Func.isWrapper; first | (rw [if_pos (by decide +kernel)]; kernel_rfl) | (rw [if_neg (by decide +kernel)]; exact ⟨rfl, rfl⟩))
    (fun os started H enc _ => DeltaSame_lifted os started H enc)
#print axioms DeltaSame_holds
end Go.Proofs.Ytjhhfininnlkfaa
