/- vote.Put: a vote is put. -/
import Derived.Test.YtjhhfininnlkfaaVote
namespace Go.Proofs.Ytjhhfininnlkfaa
open Go.RowKit Go.WideShapes Go.ChangeShapes
set_option linter.unusedVariables false
set_option linter.unusedSimpArgs false










/-- A vote that is built of its parts. -/
theorem build_lat {r : List Int} (h : RootOk r) (e : Nat) : (List.foldl (fun (cs : Array Value) (x : Value × Nat) => cs.setIfInBounds (1 + x.snd) x.fst) #[Value.bool true, Value.int .u8 0, Value.int .u8 0, Value.int .u8 0, Value.int .u8 0, Value.int .u8 0, Value.int .u8 0, Value.int .u8 0, Value.int .u8 0, Value.int .u8 0, Value.int .u8 0, Value.int .u8 0, Value.int .u8 0, Value.int .u8 0, Value.int .u8 0, Value.int .u8 0, Value.int .u8 0, Value.int .u8 0, Value.int .u8 0, Value.int .u8 0, Value.int .u8 0, Value.int .u8 0, Value.int .u8 0, Value.int .u8 0, Value.int .u8 0, Value.int .u8 0, Value.int .u8 0, Value.int .u8 0, Value.int .u8 0, Value.int .u8 0, Value.int .u8 0, Value.int .u8 0, Value.int .u8 0, Value.int .u64 0] (rootC r).zipIdx).setIfInBounds 33 (Value.int .u64 e) = (Lat.cells ⟨true, r, e⟩).toArray := by
  have hr := rootC_len h
  rw [fold_put]
  apply Array.toList_inj.1
  rw [Array.toList_setIfInBounds, putAll_list _ _ _ (by rw [hr]; decide), hr]
  unfold Lat.cells
  show (([Value.bool true] ++ rootC r) ++ [Value.int .u64 0]).set 33 _ = _
  rw [List.set_append_right _ _ (by simp [hr])]
  simp [hr]
/-- A vote of votes that the call owns is set. -/
theorem VL.set {w : World} {base n g c : Nat} {LS : List Lat} (h : w.ownsRow base 40 34 (.slice (some ⟨g, 0, none⟩) n c) n (flatL LS)) (hn : n * 48 ≤ 140737488355328) (hl : LS.length = n) (hok : ∀ x ∈ LS, x.Ok) {k : Nat} (hk : k < n) {x : Lat} (hx : x.Ok) : VL (w.setCells g (k * 34) x.cells) (some ⟨g, 0, none⟩) n c (LS.set k x) := by
  obtain ⟨A, c', e, hv, _⟩ := VL.own h hn hl hok
  obtain ⟨rfl, rfl⟩ : some (⟨g, 0, none⟩ : Addr) = A ∧ c = c' := by simpa using e
  have h2 := hv.row.set hk (Lat.len hx) (Lat.one x) (own_there h (by have := Nat.mul_le_mul_right 34 (show k + 1 ≤ n by omega); rw [Nat.succ_mul] at this; omega))
  simp only [Nat.zero_add] at h2
  refine ⟨by rw [List.map_set]; exact h2, fun y hy => ?_, hn⟩
  rcases List.mem_or_eq_of_mem_set hy with hy | rfl
  · exact hok y hy
  · exact hx
/-- What becomes of it: the votes, which of them voted twice, the fate, the error. -/
def putV (LS : List Lat) (out : Nat) (val : Int) (r : List Int) (e : Nat) : List Lat × Nat × Int × Int :=
  if mayV LS out = false then (LS, out, 0, 1)
  else if val < 0 ∨ (LS.length : Int) ≤ val then (LS, out, 0, 10)
  else if howV (LS.getD val.toNat Lat.none) (out.testBit val.toNat) r e = 0 then (LS.set val.toNat ⟨true, r, e⟩, out, 1, 0)
  else if howV (LS.getD val.toNat Lat.none) (out.testBit val.toNat) r e = 2 then (LS.set val.toNat Lat.none, out ||| 2 ^ val.toNat, 2, 0)
  else (LS, out, 0, 0)

set_option maxHeartbeats 4000000 in
theorem put_may (A : Option Addr) (n c : Nat) (out : Nat) (ho : out < 18446744073709551616) (LS : List Lat) (val : Int) (r : List Int) (hr0 : RootOk r) (e : Nat) (he : e < 18446744073709551616) (w : World) (h : VL w A n c LS) (hmay : mayV LS out = true) (hv : (0 : Int) ≤ val ∧ val < n) :
    Calls Try.prog 15 #[.agg #[.slice A n c, .int .u64 out], .int .i64 val, .agg (rootC r).toArray, .int .u64 e] w fun e' w' => (∃ A2 c2, e' = .returned (.tuple #[.agg #[.slice A2 n c2, .int .u64 (putV LS out val r e).2.1], .int .i64 (putV LS out val r e).2.2.1, .int .i64 (putV LS out val r e).2.2.2]) ∧ VL w' A2 n c2 (putV LS out val r e).1 ∧ ∀ ad, A2 = some ad → w.heap.size ≤ ad.block) ∧ Ext w w' := by
  have HOwn := Lib.hid (fun W (k : Ext w W) => own_any A n c out LS W (h.ext k))
  have HMay := Lib.hid (fun W (k : Ext w W) => vmay_any A n c out ho LS W (h.ext k))
  have hlen := h.len
  have hbytes := h.bytes
  have hok := h.ok
  have hi32 : (Try.prog.info? 38).map (·.size) = some (rootC r).length := by rw [rootC_len hr0]; kernel_rfl
  have hrl := rootC_len hr0
  rw [hmay] at HMay
  obtain ⟨k, rfl⟩ := Int.eq_ofNat_of_zero_le hv.1
  have hk : k < n := by omega
  have h8 := (mayV_iff.1 hmay).2.1
  have HHow := Lib.hid (fun W (kk : Ext w W) => how_any A n c out ho LS k hk (by omega) r hr0 e he W (h.ext kk))
  have HB := Lib.hid (fun W => bit_any (k : Int) (by omega) (by omega) W)
  rw [Stake.bitV_nat (show k < 64 by omega)] at HB
  clear h
  have g1 : (k : Int) < n := by omega
  obtain ⟨q, hq⟩ : ∃ q, howV (LS.getD k Lat.none) (out.testBit k) r e = q := ⟨_, rfl⟩
  rw [hq] at HHow
  by_cases hq0 : q = 0
  · subst hq0
    obtain ⟨pv, hput⟩ : ∃ pv, putV LS out k r e = pv := ⟨_, rfl⟩
    rw [hput]
    have hpv : pv = (LS.set k ⟨true, r, e⟩, out, 1, 0) := by rw [← hput]; unfold putV; rw [hmay]; simp only [Int.toNat_natCast, hq]; rw [if_neg (by simp), if_neg (by omega)]; rfl
    subst hpv
    clear hput hq
    go_enter Try.func15, Try.ntmps15
    go_wp2_with fail
    refine (HOwn.out _ ((by repeat (first | assumption | exact Ext.refl _ | refine Ext.alloc ?_ _ | refine Ext.drew ?_ | refine Ext.drewN ?_ _ | refine Ext.setCell ?_ (by first | (simp; done) | omega | (simp; omega)) _ | refine Ext.trans (by assumption) ?_)))).mono ?_
    rintro e w1 ⟨⟨A2, c2, rfl, hown⟩, hx1⟩
    have k1 : Ext w w1 := Ext.trans ((by repeat (first | assumption | exact Ext.refl _ | refine Ext.alloc ?_ _ | refine Ext.drew ?_ | refine Ext.drewN ?_ _ | refine Ext.setCell ?_ (by first | (simp; done) | omega | (simp; omega)) _ | refine Ext.trans (by assumption) ?_))) hx1
    obtain ⟨v0, v1, vf⟩ := hx1.box2 (B := w.heap.size) (a := .slice A n c) (b := .int .u64 out) (by first | (simp; done) | (simp (maxDischargeDepth := 7) [go_sem]; done)) (by first | (simp; done) | (simp (maxDischargeDepth := 7) [go_sem]; done)) (by first | (simp; done) | (simp (maxDischargeDepth := 7) [go_sem]; done))
    have vl := lt_of_cell v0
    obtain ⟨u0, u1, uf⟩ := hx1.box2 (B := w.heap.size + 1 + 1) (a := .slice none 0 0) (b := .int .u64 0) (by first | (simp; done) | (simp (maxDischargeDepth := 7) [go_sem]; done)) (by first | (simp; done) | (simp (maxDischargeDepth := 7) [go_sem]; done)) (by first | (simp; done) | (simp (maxDischargeDepth := 7) [go_sem]; done))
    have ul := lt_of_cell u0
    have rR := rangeAt_ext (rangeAt_ext (range_at (w := w.alloc (.cells #[.slice A n c, .int .u64 out] 28)) (B := w.heap.size + 1) (rootC r) 38 (by simp)) ((Ext.refl _).alloc (.cells #[.slice none 0 0, .int .u64 0] 28))) hx1
    go_wp2_with fail
    refine (HMay.out _ ((by repeat (first | assumption | exact Ext.refl _ | refine Ext.alloc ?_ _ | refine Ext.drew ?_ | refine Ext.drewN ?_ _ | refine Ext.setCell ?_ (by first | (simp; done) | omega | (simp; omega)) _ | refine Ext.trans (by assumption) ?_)))).mono ?_
    rintro e w2 ⟨rfl, hx2⟩
    have k2 : Ext w1 w2 := Ext.trans ((by repeat (first | assumption | exact Ext.refl _ | refine Ext.alloc ?_ _ | refine Ext.drew ?_ | refine Ext.drewN ?_ _ | refine Ext.setCell ?_ (by first | (simp; done) | omega | (simp; omega)) _ | refine Ext.trans (by assumption) ?_))) hx2
    obtain ⟨o0, o1, of⟩ := hx2.box2 (B := w1.heap.size) (a := .slice A2 n c2) (b := .int .u64 out) (by first | (simp; done) | (simp (maxDischargeDepth := 7) [go_sem]; done)) (by first | (simp; done) | (simp (maxDischargeDepth := 7) [go_sem]; done)) (by first | (simp; done) | (simp (maxDischargeDepth := 7) [go_sem]; done))
    have ol := lt_of_cell o0
    replace vf := k2.free v0 vf
    replace v0 := k2.cell v0
    replace v1 := k2.cell v1
    replace vl := lt_of_cell v0
    replace uf := k2.free u0 uf
    replace u0 := k2.cell u0
    replace u1 := k2.cell u1
    replace ul := lt_of_cell u0
    replace rR := rangeAt_ext rR k2
    go_wp2_with (refine wpList_load_mid rfl 38 _ rfl _ _ rfl (rootC r) _ (rangeAt_ext rR ((by repeat (first | assumption | exact Ext.refl _ | refine Ext.alloc ?_ _ | refine Ext.drew ?_ | refine Ext.drewN ?_ _ | refine Ext.setCell ?_ (by first | (simp; done) | omega | (simp; omega)) _ | refine Ext.trans (by assumption) ?_)))) Try.underlying38 rfl hi32 ?_)
    refine (HHow.out _ ((by repeat (first | assumption | exact Ext.refl _ | refine Ext.alloc ?_ _ | refine Ext.drew ?_ | refine Ext.drewN ?_ _ | refine Ext.setCell ?_ (by first | (simp; done) | omega | (simp; omega)) _ | refine Ext.trans (by assumption) ?_)))).mono ?_
    rintro e5 w3 ⟨rfl, hx3⟩
    have k3 : Ext w2 w3 := Ext.trans ((by repeat (first | assumption | exact Ext.refl _ | refine Ext.alloc ?_ _ | refine Ext.drew ?_ | refine Ext.drewN ?_ _ | refine Ext.setCell ?_ (by first | (simp; done) | omega | (simp; omega)) _ | refine Ext.trans (by assumption) ?_))) hx3
    replace vf := k3.free v0 vf
    replace v0 := k3.cell v0
    replace v1 := k3.cell v1
    replace vl := lt_of_cell v0
    replace uf := k3.free u0 uf
    replace u0 := k3.cell u0
    replace u1 := k3.cell u1
    replace ul := lt_of_cell u0
    replace of := k3.free o0 of
    replace o0 := k3.cell o0
    replace o1 := k3.cell o1
    replace ol := lt_of_cell o0
    replace rR := rangeAt_ext rR k3
    have hown3 := own_ext hown (k2.trans k3)
    obtain ⟨g, rfl⟩ : ∃ g, A2 = some ⟨g, 0, none⟩ := by
      rcases hown3.2 with ⟨_, h0⟩ | ⟨g, cap, cur, e', _⟩
      · omega
      · exact ⟨g, by simpa using (Value.slice.inj e').1⟩
    have HOW3 := Lib.hid hown3
    have HOW1 := Lib.hid hown
    clear hown hown3
    have hown1 := HOW1.out.lt g rfl
    have hs1 := hx1.size
    simp at hown1 hs1
    have neo : w1.heap.size ≠ g := by omega
    have neu : w.heap.size + 1 + 1 ≠ g := by omega
    have hxo : Lat.Ok ⟨true, r, e⟩ := ⟨hr0, he⟩
    have hi34 : (Try.prog.info? 40).map (·.size) = some (Lat.cells ⟨true, r, e⟩).toArray.size := by rw [List.size_toArray, Lat.len hxo]; kernel_rfl
    have o0s := cell_apart (o := k * 34) (vs := (Lat.cells ⟨true, r, e⟩)) o0 neo
    have o1s := cell_apart (o := k * 34) (vs := (Lat.cells ⟨true, r, e⟩)) o1 neo
    have u0s := cell_apart (o := k * 34) (vs := (Lat.cells ⟨true, r, e⟩)) u0 neu
    have u1s := cell_apart (o := k * 34) (vs := (Lat.cells ⟨true, r, e⟩)) u1 neu
    have ufs : ∀ o, (w3.setCells g (k * 34) (Lat.cells ⟨true, r, e⟩)).frozen? ⟨w.heap.size + 1 + 1, o, none⟩ = false := fun o => by rw [World.frozen?_setCells]; exact uf o
    have ofs : ∀ o, (w3.setCells g (k * 34) (Lat.cells ⟨true, r, e⟩)).frozen? ⟨w1.heap.size, o, none⟩ = false := fun o => by rw [World.frozen?_setCells]; exact of o
    have hthere : w3.there g (k * 34) (Lat.cells ⟨true, r, e⟩).toArray.size := by rw [List.size_toArray, Lat.len hxo]; exact own_there HOW3.out (by have := Nat.mul_le_mul_right 34 (show k + 1 ≤ n by omega); rw [Nat.succ_mul] at this; omega)
    have hVL := VL.set HOW3.out hbytes hlen hok hk hxo
    have hxs : Ext w (w3.setCells g (k * 34) (Lat.cells ⟨true, r, e⟩)) := Ext.setCells (by omega) _ _ (k1.trans (k2.trans k3))
    go_wp2_with (first | (refine wpList_load_mid rfl 38 _ rfl _ _ rfl (rootC r) _ (rangeAt_ext rR ((by repeat (first | assumption | exact Ext.refl _ | refine Ext.alloc ?_ _ | refine Ext.drew ?_ | refine Ext.drewN ?_ _ | refine Ext.setCell ?_ (by first | (simp; done) | omega | (simp; omega)) _ | refine Ext.trans (by assumption) ?_)))) Try.underlying38 rfl hi32 ?_) | (refine wpList_store_mid rfl 40 _ _ rfl g (k * 34) (Lat.cells ⟨true, r, e⟩).toArray rfl (congrArg Value.agg (build_lat hr0 e)) hthere hi34 (all_oneCell_toArray (Lat.one _)) ?_))
    · exact absurd h (build_size rfl)
    refine bodyPost_ret (v := .tuple #[.agg #[.slice (some ⟨g, 0, none⟩) n c2, .int .u64 out], .int .i64 1, .int .i64 0]) (by simp (maxDischargeDepth := 7) [results, Try.results15, go_sem, u0s, u1s]) rfl ⟨⟨_, _, rfl, ?_, fun ad e => by cases e; show w.heap.size ≤ g; omega⟩, ?_⟩
    · exact (hVL.setCell (fun ad e => by cases e; exact fun h' => neu h'.symm) _).setCell (fun ad e => by cases e; exact fun h' => neu h'.symm) _
    · exact (hxs.setCell (by show _ ≤ w.heap.size + 1 + 1; omega) _).setCell (by show _ ≤ w.heap.size + 1 + 1; omega) _
  by_cases hq2 : q = 2
  · subst hq2
    have hlt := Nat.pow_lt_pow_right (a := 2) (by omega) (show k < 64 by omega)
    have hor := bits_or_u64_nat out (2 ^ k) ho (by omega)
    obtain ⟨pv, hput⟩ : ∃ pv, putV LS out k r e = pv := ⟨_, rfl⟩
    rw [hput]
    have hpv : pv = (LS.set k Lat.none, out ||| 2 ^ k, 2, 0) := by rw [← hput]; unfold putV; rw [hmay]; simp only [Int.toNat_natCast, hq]; rw [if_neg (by simp), if_neg (by omega)]; rfl
    subst hpv
    clear hput hq
    generalize hX : 2 ^ k = X at *
    generalize hY : out ||| X = Y at *
    clear hX hY
    go_enter Try.func15, Try.ntmps15
    go_wp2_with fail
    refine (HOwn.out _ ((by repeat (first | assumption | exact Ext.refl _ | refine Ext.alloc ?_ _ | refine Ext.drew ?_ | refine Ext.drewN ?_ _ | refine Ext.setCell ?_ (by first | (simp; done) | omega | (simp; omega)) _ | refine Ext.trans (by assumption) ?_)))).mono ?_
    rintro e w1 ⟨⟨A2, c2, rfl, hown⟩, hx1⟩
    have k1 : Ext w w1 := Ext.trans ((by repeat (first | assumption | exact Ext.refl _ | refine Ext.alloc ?_ _ | refine Ext.drew ?_ | refine Ext.drewN ?_ _ | refine Ext.setCell ?_ (by first | (simp; done) | omega | (simp; omega)) _ | refine Ext.trans (by assumption) ?_))) hx1
    obtain ⟨v0, v1, vf⟩ := hx1.box2 (B := w.heap.size) (a := .slice A n c) (b := .int .u64 out) (by first | (simp; done) | (simp (maxDischargeDepth := 7) [go_sem]; done)) (by first | (simp; done) | (simp (maxDischargeDepth := 7) [go_sem]; done)) (by first | (simp; done) | (simp (maxDischargeDepth := 7) [go_sem]; done))
    have vl := lt_of_cell v0
    obtain ⟨u0, u1, uf⟩ := hx1.box2 (B := w.heap.size + 1 + 1) (a := .slice none 0 0) (b := .int .u64 0) (by first | (simp; done) | (simp (maxDischargeDepth := 7) [go_sem]; done)) (by first | (simp; done) | (simp (maxDischargeDepth := 7) [go_sem]; done)) (by first | (simp; done) | (simp (maxDischargeDepth := 7) [go_sem]; done))
    have ul := lt_of_cell u0
    have rR := rangeAt_ext (rangeAt_ext (range_at (w := w.alloc (.cells #[.slice A n c, .int .u64 out] 28)) (B := w.heap.size + 1) (rootC r) 38 (by simp)) ((Ext.refl _).alloc (.cells #[.slice none 0 0, .int .u64 0] 28))) hx1
    go_wp2_with fail
    refine (HMay.out _ ((by repeat (first | assumption | exact Ext.refl _ | refine Ext.alloc ?_ _ | refine Ext.drew ?_ | refine Ext.drewN ?_ _ | refine Ext.setCell ?_ (by first | (simp; done) | omega | (simp; omega)) _ | refine Ext.trans (by assumption) ?_)))).mono ?_
    rintro e w2 ⟨rfl, hx2⟩
    have k2 : Ext w1 w2 := Ext.trans ((by repeat (first | assumption | exact Ext.refl _ | refine Ext.alloc ?_ _ | refine Ext.drew ?_ | refine Ext.drewN ?_ _ | refine Ext.setCell ?_ (by first | (simp; done) | omega | (simp; omega)) _ | refine Ext.trans (by assumption) ?_))) hx2
    obtain ⟨o0, o1, of⟩ := hx2.box2 (B := w1.heap.size) (a := .slice A2 n c2) (b := .int .u64 out) (by first | (simp; done) | (simp (maxDischargeDepth := 7) [go_sem]; done)) (by first | (simp; done) | (simp (maxDischargeDepth := 7) [go_sem]; done)) (by first | (simp; done) | (simp (maxDischargeDepth := 7) [go_sem]; done))
    have ol := lt_of_cell o0
    replace vf := k2.free v0 vf
    replace v0 := k2.cell v0
    replace v1 := k2.cell v1
    replace vl := lt_of_cell v0
    replace uf := k2.free u0 uf
    replace u0 := k2.cell u0
    replace u1 := k2.cell u1
    replace ul := lt_of_cell u0
    replace rR := rangeAt_ext rR k2
    go_wp2_with (refine wpList_load_mid rfl 38 _ rfl _ _ rfl (rootC r) _ (rangeAt_ext rR ((by repeat (first | assumption | exact Ext.refl _ | refine Ext.alloc ?_ _ | refine Ext.drew ?_ | refine Ext.drewN ?_ _ | refine Ext.setCell ?_ (by first | (simp; done) | omega | (simp; omega)) _ | refine Ext.trans (by assumption) ?_)))) Try.underlying38 rfl hi32 ?_)
    refine (HHow.out _ ((by repeat (first | assumption | exact Ext.refl _ | refine Ext.alloc ?_ _ | refine Ext.drew ?_ | refine Ext.drewN ?_ _ | refine Ext.setCell ?_ (by first | (simp; done) | omega | (simp; omega)) _ | refine Ext.trans (by assumption) ?_)))).mono ?_
    rintro e5 w3 ⟨rfl, hx3⟩
    have k3 : Ext w2 w3 := Ext.trans ((by repeat (first | assumption | exact Ext.refl _ | refine Ext.alloc ?_ _ | refine Ext.drew ?_ | refine Ext.drewN ?_ _ | refine Ext.setCell ?_ (by first | (simp; done) | omega | (simp; omega)) _ | refine Ext.trans (by assumption) ?_))) hx3
    replace vf := k3.free v0 vf
    replace v0 := k3.cell v0
    replace v1 := k3.cell v1
    replace vl := lt_of_cell v0
    replace uf := k3.free u0 uf
    replace u0 := k3.cell u0
    replace u1 := k3.cell u1
    replace ul := lt_of_cell u0
    replace of := k3.free o0 of
    replace o0 := k3.cell o0
    replace o1 := k3.cell o1
    replace ol := lt_of_cell o0
    clear rR
    have hown3 := own_ext hown (k2.trans k3)
    obtain ⟨g, rfl⟩ : ∃ g, A2 = some ⟨g, 0, none⟩ := by
      rcases hown3.2 with ⟨_, h0⟩ | ⟨g, cap, cur, e', _⟩
      · omega
      · exact ⟨g, by simpa using (Value.slice.inj e').1⟩
    have HOW3 := Lib.hid hown3
    have HOW1 := Lib.hid hown
    clear hown hown3
    have hown1 := HOW1.out.lt g rfl
    have hs1 := hx1.size
    simp at hown1 hs1
    have neo : w1.heap.size ≠ g := by omega
    have neu : w.heap.size + 1 + 1 ≠ g := by omega
    have hxo : Lat.Ok Lat.none := Lat.none_ok
    have hi34 : (Try.prog.info? 40).map (·.size) = some (Lat.cells Lat.none).toArray.size := by rw [List.size_toArray, Lat.len hxo]; kernel_rfl
    have o0s := cell_apart (o := k * 34) (vs := (Lat.cells Lat.none)) o0 neo
    have o1s := cell_apart (o := k * 34) (vs := (Lat.cells Lat.none)) o1 neo
    have u0s := cell_apart (o := k * 34) (vs := (Lat.cells Lat.none)) u0 neu
    have u1s := cell_apart (o := k * 34) (vs := (Lat.cells Lat.none)) u1 neu
    have ufs : ∀ o, (w3.setCells g (k * 34) (Lat.cells Lat.none)).frozen? ⟨w.heap.size + 1 + 1, o, none⟩ = false := fun o => by rw [World.frozen?_setCells]; exact uf o
    have ofs : ∀ o, (w3.setCells g (k * 34) (Lat.cells Lat.none)).frozen? ⟨w1.heap.size, o, none⟩ = false := fun o => by rw [World.frozen?_setCells]; exact of o
    have hthere : w3.there g (k * 34) (Lat.cells Lat.none).toArray.size := by rw [List.size_toArray, Lat.len hxo]; exact own_there HOW3.out (by have := Nat.mul_le_mul_right 34 (show k + 1 ≤ n by omega); rw [Nat.succ_mul] at this; omega)
    have hVL := VL.set HOW3.out hbytes hlen hok hk hxo
    have hxs : Ext w (w3.setCells g (k * 34) (Lat.cells Lat.none)) := Ext.setCells (by omega) _ _ (k1.trans (k2.trans k3))
    go_wp2_with (refine wpList_store_mid rfl 40 _ _ rfl g (k * 34) (Lat.cells Lat.none).toArray rfl rfl hthere hi34 (all_oneCell_toArray (Lat.one _)) ?_)
    generalize w3.setCells g (k * 34) (Lat.cells Lat.none) = w4 at *
    go_region_with (go_at_call 29; refine (HB.out _).mono ?_; rintro e w5 ⟨rfl, rfl⟩)
    all_goals go_wp2
    all_goals refine bodyPost_ret (v := .tuple #[.agg #[.slice (some ⟨g, 0, none⟩) n c2, .int .u64 Y], .int .i64 2, .int .i64 0]) (by simp (maxDischargeDepth := 7) [results, Try.results15, go_sem, u0s, u1s]) rfl ⟨⟨_, _, rfl, ?_, fun ad e => by cases e; show w.heap.size ≤ g; omega⟩, ?_⟩
    · exact (((hVL.setCell (fun ad e => by cases e; exact fun h' => neo h'.symm) _).ext ((Ext.refl _).drew)).setCell (fun ad e => by cases e; exact fun h' => neu h'.symm) _).setCell (fun ad e => by cases e; exact fun h' => neu h'.symm) _
    · exact (((hxs.setCell (by show _ ≤ w1.heap.size; omega) _).drew).setCell (by show _ ≤ w.heap.size + 1 + 1; omega) _).setCell (by show _ ≤ w.heap.size + 1 + 1; omega) _
    · exact (((hVL.setCell (fun ad e => by cases e; exact fun h' => neo h'.symm) _).ext ((Ext.refl _).drew)).setCell (fun ad e => by cases e; exact fun h' => neu h'.symm) _).setCell (fun ad e => by cases e; exact fun h' => neu h'.symm) _
    · exact (((hxs.setCell (by show _ ≤ w1.heap.size; omega) _).drew).setCell (by show _ ≤ w.heap.size + 1 + 1; omega) _).setCell (by show _ ≤ w.heap.size + 1 + 1; omega) _
  · have g2 : (q == 0) = false := by simpa using hq0
    have g3 : (q == 2) = false := by simpa using hq2
    have hput : putV LS out k r e = (LS, out, 0, 0) := by unfold putV; rw [hmay]; simp only [Int.toNat_natCast, hq]; rw [if_neg (by simp), if_neg (by omega), if_neg hq0, if_neg hq2]
    rw [hput]
    clear hput hq
    go_enter Try.func15, Try.ntmps15
    go_wp2_with fail
    refine (HOwn.out _ ((by repeat (first | assumption | exact Ext.refl _ | refine Ext.alloc ?_ _ | refine Ext.drew ?_ | refine Ext.drewN ?_ _ | refine Ext.setCell ?_ (by first | (simp; done) | omega | (simp; omega)) _ | refine Ext.trans (by assumption) ?_)))).mono ?_
    rintro e w1 ⟨⟨A2, c2, rfl, hown⟩, hx1⟩
    have k1 : Ext w w1 := Ext.trans ((by repeat (first | assumption | exact Ext.refl _ | refine Ext.alloc ?_ _ | refine Ext.drew ?_ | refine Ext.drewN ?_ _ | refine Ext.setCell ?_ (by first | (simp; done) | omega | (simp; omega)) _ | refine Ext.trans (by assumption) ?_))) hx1
    obtain ⟨v0, v1, vf⟩ := hx1.box2 (B := w.heap.size) (a := .slice A n c) (b := .int .u64 out) (by first | (simp; done) | (simp (maxDischargeDepth := 7) [go_sem]; done)) (by first | (simp; done) | (simp (maxDischargeDepth := 7) [go_sem]; done)) (by first | (simp; done) | (simp (maxDischargeDepth := 7) [go_sem]; done))
    have vl := lt_of_cell v0
    obtain ⟨u0, u1, uf⟩ := hx1.box2 (B := w.heap.size + 1 + 1) (a := .slice none 0 0) (b := .int .u64 0) (by first | (simp; done) | (simp (maxDischargeDepth := 7) [go_sem]; done)) (by first | (simp; done) | (simp (maxDischargeDepth := 7) [go_sem]; done)) (by first | (simp; done) | (simp (maxDischargeDepth := 7) [go_sem]; done))
    have ul := lt_of_cell u0
    have rR := rangeAt_ext (rangeAt_ext (range_at (w := w.alloc (.cells #[.slice A n c, .int .u64 out] 28)) (B := w.heap.size + 1) (rootC r) 38 (by simp)) ((Ext.refl _).alloc (.cells #[.slice none 0 0, .int .u64 0] 28))) hx1
    go_wp2_with fail
    refine (HMay.out _ ((by repeat (first | assumption | exact Ext.refl _ | refine Ext.alloc ?_ _ | refine Ext.drew ?_ | refine Ext.drewN ?_ _ | refine Ext.setCell ?_ (by first | (simp; done) | omega | (simp; omega)) _ | refine Ext.trans (by assumption) ?_)))).mono ?_
    rintro e w2 ⟨rfl, hx2⟩
    have k2 : Ext w1 w2 := Ext.trans ((by repeat (first | assumption | exact Ext.refl _ | refine Ext.alloc ?_ _ | refine Ext.drew ?_ | refine Ext.drewN ?_ _ | refine Ext.setCell ?_ (by first | (simp; done) | omega | (simp; omega)) _ | refine Ext.trans (by assumption) ?_))) hx2
    obtain ⟨o0, o1, of⟩ := hx2.box2 (B := w1.heap.size) (a := .slice A2 n c2) (b := .int .u64 out) (by first | (simp; done) | (simp (maxDischargeDepth := 7) [go_sem]; done)) (by first | (simp; done) | (simp (maxDischargeDepth := 7) [go_sem]; done)) (by first | (simp; done) | (simp (maxDischargeDepth := 7) [go_sem]; done))
    have ol := lt_of_cell o0
    replace vf := k2.free v0 vf
    replace v0 := k2.cell v0
    replace v1 := k2.cell v1
    replace vl := lt_of_cell v0
    replace uf := k2.free u0 uf
    replace u0 := k2.cell u0
    replace u1 := k2.cell u1
    replace ul := lt_of_cell u0
    replace rR := rangeAt_ext rR k2
    go_wp2_with (refine wpList_load_mid rfl 38 _ rfl _ _ rfl (rootC r) _ (rangeAt_ext rR ((by repeat (first | assumption | exact Ext.refl _ | refine Ext.alloc ?_ _ | refine Ext.drew ?_ | refine Ext.drewN ?_ _ | refine Ext.setCell ?_ (by first | (simp; done) | omega | (simp; omega)) _ | refine Ext.trans (by assumption) ?_)))) Try.underlying38 rfl hi32 ?_)
    refine (HHow.out _ ((by repeat (first | assumption | exact Ext.refl _ | refine Ext.alloc ?_ _ | refine Ext.drew ?_ | refine Ext.drewN ?_ _ | refine Ext.setCell ?_ (by first | (simp; done) | omega | (simp; omega)) _ | refine Ext.trans (by assumption) ?_)))).mono ?_
    rintro e5 w3 ⟨rfl, hx3⟩
    have k3 : Ext w2 w3 := Ext.trans ((by repeat (first | assumption | exact Ext.refl _ | refine Ext.alloc ?_ _ | refine Ext.drew ?_ | refine Ext.drewN ?_ _ | refine Ext.setCell ?_ (by first | (simp; done) | omega | (simp; omega)) _ | refine Ext.trans (by assumption) ?_))) hx3
    replace vf := k3.free v0 vf
    replace v0 := k3.cell v0
    replace v1 := k3.cell v1
    replace vl := lt_of_cell v0
    replace uf := k3.free u0 uf
    replace u0 := k3.cell u0
    replace u1 := k3.cell u1
    replace ul := lt_of_cell u0
    replace of := k3.free o0 of
    replace o0 := k3.cell o0
    replace o1 := k3.cell o1
    replace ol := lt_of_cell o0
    have hown3 := own_ext hown (k2.trans k3)
    have hs1 := hx1.size
    simp at hs1
    obtain ⟨A', c', e', hVL, hfr⟩ := VL.own hown3 hbytes hlen hok
    obtain ⟨rfl, rfl⟩ : A2 = A' ∧ c2 = c' := by simpa using e'
    clear hown hown3 e'
    have neu : ∀ ad, A2 = some ad → ad.block ≠ w.heap.size + 1 + 1 := fun ad e => by have := hfr ad e; simp at this; omega
    go_wp2
    refine bodyPost_ret (v := .tuple #[.agg #[.slice A2 n c2, .int .u64 out], .int .i64 0, .int .i64 0]) (by simp (maxDischargeDepth := 7) [results, Try.results15, go_sem, u0, u1]) rfl ⟨⟨_, _, rfl, ?_, fun ad e => by have := hfr ad e; simp at this; omega⟩, ?_⟩
    · exact ((hVL.ext ((by repeat (first | assumption | exact Ext.refl _ | refine Ext.alloc ?_ _ | refine Ext.drew ?_ | refine Ext.drewN ?_ _ | refine Ext.setCell ?_ (by first | (simp; done) | omega | (simp; omega)) _ | refine Ext.trans (by assumption) ?_)))).setCell neu _).setCell neu _
    · exact (Ext.setCell ((by repeat (first | assumption | exact Ext.refl _ | refine Ext.alloc ?_ _ | refine Ext.drew ?_ | refine Ext.drewN ?_ _ | refine Ext.setCell ?_ (by first | (simp; done) | omega | (simp; omega)) _ | refine Ext.trans (by assumption) ?_))) (by show _ ≤ w.heap.size + 1 + 1; omega) _).setCell (by show _ ≤ w.heap.size + 1 + 1; omega) _
set_option maxHeartbeats 4000000 in
theorem put_fresh (A : Option Addr) (n c : Nat) (out : Nat) (ho : out < 18446744073709551616) (LS : List Lat) (val : Int) (r : List Int) (hr0 : RootOk r) (e : Nat) (he : e < 18446744073709551616) (w : World) (h : VL w A n c LS) :
    Calls Try.prog 15 #[.agg #[.slice A n c, .int .u64 out], .int .i64 val, .agg (rootC r).toArray, .int .u64 e] w fun e' w' => (∃ A2 c2, e' = .returned (.tuple #[.agg #[.slice A2 n c2, .int .u64 (putV LS out val r e).2.1], .int .i64 (putV LS out val r e).2.2.1, .int .i64 (putV LS out val r e).2.2.2]) ∧ VL w' A2 n c2 (putV LS out val r e).1 ∧ ∀ ad, A2 = some ad → w.heap.size ≤ ad.block) ∧ Ext w w' := by
  cases hmay : mayV LS out with
  | false =>
    have HOwn := Lib.hid (fun W (k : Ext w W) => own_any A n c out LS W (h.ext k))
    have HMay := Lib.hid (fun W (k : Ext w W) => vmay_any A n c out ho LS W (h.ext k))
    have hlen := h.len
    have hbytes := h.bytes
    have hok := h.ok
    have hi32 : (Try.prog.info? 38).map (·.size) = some (rootC r).length := by rw [rootC_len hr0]; kernel_rfl
    have hrl := rootC_len hr0
    rw [hmay] at HMay
    have hput : putV LS out val r e = (LS, out, 0, 1) := by unfold putV; rw [if_pos hmay]
    rw [hput]
    clear hput h
    go_enter Try.func15, Try.ntmps15
    go_wp2_with fail
    refine (HOwn.out _ ((by repeat (first | assumption | exact Ext.refl _ | refine Ext.alloc ?_ _ | refine Ext.drew ?_ | refine Ext.drewN ?_ _ | refine Ext.setCell ?_ (by first | (simp; done) | omega | (simp; omega)) _ | refine Ext.trans (by assumption) ?_)))).mono ?_
    rintro e w1 ⟨⟨A2, c2, rfl, hown⟩, hx1⟩
    have k1 : Ext w w1 := Ext.trans ((by repeat (first | assumption | exact Ext.refl _ | refine Ext.alloc ?_ _ | refine Ext.drew ?_ | refine Ext.drewN ?_ _ | refine Ext.setCell ?_ (by first | (simp; done) | omega | (simp; omega)) _ | refine Ext.trans (by assumption) ?_))) hx1
    obtain ⟨v0, v1, vf⟩ := hx1.box2 (B := w.heap.size) (a := .slice A n c) (b := .int .u64 out) (by first | (simp; done) | (simp (maxDischargeDepth := 7) [go_sem]; done)) (by first | (simp; done) | (simp (maxDischargeDepth := 7) [go_sem]; done)) (by first | (simp; done) | (simp (maxDischargeDepth := 7) [go_sem]; done))
    have vl := lt_of_cell v0
    obtain ⟨u0, u1, uf⟩ := hx1.box2 (B := w.heap.size + 1 + 1) (a := .slice none 0 0) (b := .int .u64 0) (by first | (simp; done) | (simp (maxDischargeDepth := 7) [go_sem]; done)) (by first | (simp; done) | (simp (maxDischargeDepth := 7) [go_sem]; done)) (by first | (simp; done) | (simp (maxDischargeDepth := 7) [go_sem]; done))
    have ul := lt_of_cell u0
    have rR := rangeAt_ext (rangeAt_ext (range_at (w := w.alloc (.cells #[.slice A n c, .int .u64 out] 28)) (B := w.heap.size + 1) (rootC r) 38 (by simp)) ((Ext.refl _).alloc (.cells #[.slice none 0 0, .int .u64 0] 28))) hx1
    go_wp2_with fail
    refine (HMay.out _ ((by repeat (first | assumption | exact Ext.refl _ | refine Ext.alloc ?_ _ | refine Ext.drew ?_ | refine Ext.drewN ?_ _ | refine Ext.setCell ?_ (by first | (simp; done) | omega | (simp; omega)) _ | refine Ext.trans (by assumption) ?_)))).mono ?_
    rintro e w2 ⟨rfl, hx2⟩
    have k2 : Ext w1 w2 := Ext.trans ((by repeat (first | assumption | exact Ext.refl _ | refine Ext.alloc ?_ _ | refine Ext.drew ?_ | refine Ext.drewN ?_ _ | refine Ext.setCell ?_ (by first | (simp; done) | omega | (simp; omega)) _ | refine Ext.trans (by assumption) ?_))) hx2
    obtain ⟨o0, o1, of⟩ := hx2.box2 (B := w1.heap.size) (a := .slice A2 n c2) (b := .int .u64 out) (by first | (simp; done) | (simp (maxDischargeDepth := 7) [go_sem]; done)) (by first | (simp; done) | (simp (maxDischargeDepth := 7) [go_sem]; done)) (by first | (simp; done) | (simp (maxDischargeDepth := 7) [go_sem]; done))
    have ol := lt_of_cell o0
    replace vf := k2.free v0 vf
    replace v0 := k2.cell v0
    replace v1 := k2.cell v1
    replace vl := lt_of_cell v0
    replace uf := k2.free u0 uf
    replace u0 := k2.cell u0
    replace u1 := k2.cell u1
    replace ul := lt_of_cell u0
    replace rR := rangeAt_ext rR k2
    have hown3 := own_ext hown k2
    have hs1 := hx1.size
    simp at hs1
    obtain ⟨A', c', e', hVL, hfr⟩ := VL.own hown3 hbytes hlen hok
    obtain ⟨rfl, rfl⟩ : A2 = A' ∧ c2 = c' := by simpa using e'
    clear hown hown3 e'
    have neu : ∀ ad, A2 = some ad → ad.block ≠ w.heap.size + 1 + 1 := fun ad e => by have := hfr ad e; simp at this; omega
    go_wp2
    refine bodyPost_ret (v := .tuple #[.agg #[.slice A2 n c2, .int .u64 out], .int .i64 0, .int .i64 1]) (by simp (maxDischargeDepth := 7) [results, Try.results15, go_sem, u0, u1]) rfl ⟨⟨_, _, rfl, ?_, fun ad e => by have := hfr ad e; simp at this; omega⟩, ?_⟩
    · exact ((hVL.ext ((by repeat (first | assumption | exact Ext.refl _ | refine Ext.alloc ?_ _ | refine Ext.drew ?_ | refine Ext.drewN ?_ _ | refine Ext.setCell ?_ (by first | (simp; done) | omega | (simp; omega)) _ | refine Ext.trans (by assumption) ?_)))).setCell neu _).setCell neu _
    · exact (Ext.setCell ((by repeat (first | assumption | exact Ext.refl _ | refine Ext.alloc ?_ _ | refine Ext.drew ?_ | refine Ext.drewN ?_ _ | refine Ext.setCell ?_ (by first | (simp; done) | omega | (simp; omega)) _ | refine Ext.trans (by assumption) ?_))) (by show _ ≤ w.heap.size + 1 + 1; omega) _).setCell (by show _ ≤ w.heap.size + 1 + 1; omega) _
  | true =>
    by_cases hv : (0 : Int) ≤ val ∧ val < n
    · exact put_may A n c out ho LS val r hr0 e he w h hmay hv
    · have HOwn := Lib.hid (fun W (k : Ext w W) => own_any A n c out LS W (h.ext k))
      have HMay := Lib.hid (fun W (k : Ext w W) => vmay_any A n c out ho LS W (h.ext k))
      have hlen := h.len
      have hbytes := h.bytes
      have hok := h.ok
      have hi32 : (Try.prog.info? 38).map (·.size) = some (rootC r).length := by rw [rootC_len hr0]; kernel_rfl
      have hrl := rootC_len hr0
      rw [hmay] at HMay
      have hput : putV LS out val r e = (LS, out, 0, 10) := by unfold putV; rw [if_neg (by simp [hmay]), if_pos (by omega)]
      rw [hput]
      clear hput h
      by_cases h0 : val < 0
      · go_enter Try.func15, Try.ntmps15
        go_wp2_with fail
        refine (HOwn.out _ ((by repeat (first | assumption | exact Ext.refl _ | refine Ext.alloc ?_ _ | refine Ext.drew ?_ | refine Ext.drewN ?_ _ | refine Ext.setCell ?_ (by first | (simp; done) | omega | (simp; omega)) _ | refine Ext.trans (by assumption) ?_)))).mono ?_
        rintro e w1 ⟨⟨A2, c2, rfl, hown⟩, hx1⟩
        have k1 : Ext w w1 := Ext.trans ((by repeat (first | assumption | exact Ext.refl _ | refine Ext.alloc ?_ _ | refine Ext.drew ?_ | refine Ext.drewN ?_ _ | refine Ext.setCell ?_ (by first | (simp; done) | omega | (simp; omega)) _ | refine Ext.trans (by assumption) ?_))) hx1
        obtain ⟨v0, v1, vf⟩ := hx1.box2 (B := w.heap.size) (a := .slice A n c) (b := .int .u64 out) (by first | (simp; done) | (simp (maxDischargeDepth := 7) [go_sem]; done)) (by first | (simp; done) | (simp (maxDischargeDepth := 7) [go_sem]; done)) (by first | (simp; done) | (simp (maxDischargeDepth := 7) [go_sem]; done))
        have vl := lt_of_cell v0
        obtain ⟨u0, u1, uf⟩ := hx1.box2 (B := w.heap.size + 1 + 1) (a := .slice none 0 0) (b := .int .u64 0) (by first | (simp; done) | (simp (maxDischargeDepth := 7) [go_sem]; done)) (by first | (simp; done) | (simp (maxDischargeDepth := 7) [go_sem]; done)) (by first | (simp; done) | (simp (maxDischargeDepth := 7) [go_sem]; done))
        have ul := lt_of_cell u0
        have rR := rangeAt_ext (rangeAt_ext (range_at (w := w.alloc (.cells #[.slice A n c, .int .u64 out] 28)) (B := w.heap.size + 1) (rootC r) 38 (by simp)) ((Ext.refl _).alloc (.cells #[.slice none 0 0, .int .u64 0] 28))) hx1
        go_wp2_with fail
        refine (HMay.out _ ((by repeat (first | assumption | exact Ext.refl _ | refine Ext.alloc ?_ _ | refine Ext.drew ?_ | refine Ext.drewN ?_ _ | refine Ext.setCell ?_ (by first | (simp; done) | omega | (simp; omega)) _ | refine Ext.trans (by assumption) ?_)))).mono ?_
        rintro e w2 ⟨rfl, hx2⟩
        have k2 : Ext w1 w2 := Ext.trans ((by repeat (first | assumption | exact Ext.refl _ | refine Ext.alloc ?_ _ | refine Ext.drew ?_ | refine Ext.drewN ?_ _ | refine Ext.setCell ?_ (by first | (simp; done) | omega | (simp; omega)) _ | refine Ext.trans (by assumption) ?_))) hx2
        obtain ⟨o0, o1, of⟩ := hx2.box2 (B := w1.heap.size) (a := .slice A2 n c2) (b := .int .u64 out) (by first | (simp; done) | (simp (maxDischargeDepth := 7) [go_sem]; done)) (by first | (simp; done) | (simp (maxDischargeDepth := 7) [go_sem]; done)) (by first | (simp; done) | (simp (maxDischargeDepth := 7) [go_sem]; done))
        have ol := lt_of_cell o0
        replace vf := k2.free v0 vf
        replace v0 := k2.cell v0
        replace v1 := k2.cell v1
        replace vl := lt_of_cell v0
        replace uf := k2.free u0 uf
        replace u0 := k2.cell u0
        replace u1 := k2.cell u1
        replace ul := lt_of_cell u0
        replace rR := rangeAt_ext rR k2
        have hown3 := own_ext hown k2
        have hs1 := hx1.size
        simp at hs1
        obtain ⟨A', c', e', hVL, hfr⟩ := VL.own hown3 hbytes hlen hok
        obtain ⟨rfl, rfl⟩ : A2 = A' ∧ c2 = c' := by simpa using e'
        clear hown hown3 e'
        have neu : ∀ ad, A2 = some ad → ad.block ≠ w.heap.size + 1 + 1 := fun ad e => by have := hfr ad e; simp at this; omega
        go_wp2
        refine bodyPost_ret (v := .tuple #[.agg #[.slice A2 n c2, .int .u64 out], .int .i64 0, .int .i64 10]) (by simp (maxDischargeDepth := 7) [results, Try.results15, go_sem, u0, u1]) rfl ⟨⟨_, _, rfl, ?_, fun ad e => by have := hfr ad e; simp at this; omega⟩, ?_⟩
        · exact ((hVL.ext ((by repeat (first | assumption | exact Ext.refl _ | refine Ext.alloc ?_ _ | refine Ext.drew ?_ | refine Ext.drewN ?_ _ | refine Ext.setCell ?_ (by first | (simp; done) | omega | (simp; omega)) _ | refine Ext.trans (by assumption) ?_)))).setCell neu _).setCell neu _
        · exact (Ext.setCell ((by repeat (first | assumption | exact Ext.refl _ | refine Ext.alloc ?_ _ | refine Ext.drew ?_ | refine Ext.drewN ?_ _ | refine Ext.setCell ?_ (by first | (simp; done) | omega | (simp; omega)) _ | refine Ext.trans (by assumption) ?_))) (by show _ ≤ w.heap.size + 1 + 1; omega) _).setCell (by show _ ≤ w.heap.size + 1 + 1; omega) _
      · have g1 : (n : Int) ≤ val := by omega
        go_enter Try.func15, Try.ntmps15
        go_wp2_with fail
        refine (HOwn.out _ ((by repeat (first | assumption | exact Ext.refl _ | refine Ext.alloc ?_ _ | refine Ext.drew ?_ | refine Ext.drewN ?_ _ | refine Ext.setCell ?_ (by first | (simp; done) | omega | (simp; omega)) _ | refine Ext.trans (by assumption) ?_)))).mono ?_
        rintro e w1 ⟨⟨A2, c2, rfl, hown⟩, hx1⟩
        have k1 : Ext w w1 := Ext.trans ((by repeat (first | assumption | exact Ext.refl _ | refine Ext.alloc ?_ _ | refine Ext.drew ?_ | refine Ext.drewN ?_ _ | refine Ext.setCell ?_ (by first | (simp; done) | omega | (simp; omega)) _ | refine Ext.trans (by assumption) ?_))) hx1
        obtain ⟨v0, v1, vf⟩ := hx1.box2 (B := w.heap.size) (a := .slice A n c) (b := .int .u64 out) (by first | (simp; done) | (simp (maxDischargeDepth := 7) [go_sem]; done)) (by first | (simp; done) | (simp (maxDischargeDepth := 7) [go_sem]; done)) (by first | (simp; done) | (simp (maxDischargeDepth := 7) [go_sem]; done))
        have vl := lt_of_cell v0
        obtain ⟨u0, u1, uf⟩ := hx1.box2 (B := w.heap.size + 1 + 1) (a := .slice none 0 0) (b := .int .u64 0) (by first | (simp; done) | (simp (maxDischargeDepth := 7) [go_sem]; done)) (by first | (simp; done) | (simp (maxDischargeDepth := 7) [go_sem]; done)) (by first | (simp; done) | (simp (maxDischargeDepth := 7) [go_sem]; done))
        have ul := lt_of_cell u0
        have rR := rangeAt_ext (rangeAt_ext (range_at (w := w.alloc (.cells #[.slice A n c, .int .u64 out] 28)) (B := w.heap.size + 1) (rootC r) 38 (by simp)) ((Ext.refl _).alloc (.cells #[.slice none 0 0, .int .u64 0] 28))) hx1
        go_wp2_with fail
        refine (HMay.out _ ((by repeat (first | assumption | exact Ext.refl _ | refine Ext.alloc ?_ _ | refine Ext.drew ?_ | refine Ext.drewN ?_ _ | refine Ext.setCell ?_ (by first | (simp; done) | omega | (simp; omega)) _ | refine Ext.trans (by assumption) ?_)))).mono ?_
        rintro e w2 ⟨rfl, hx2⟩
        have k2 : Ext w1 w2 := Ext.trans ((by repeat (first | assumption | exact Ext.refl _ | refine Ext.alloc ?_ _ | refine Ext.drew ?_ | refine Ext.drewN ?_ _ | refine Ext.setCell ?_ (by first | (simp; done) | omega | (simp; omega)) _ | refine Ext.trans (by assumption) ?_))) hx2
        obtain ⟨o0, o1, of⟩ := hx2.box2 (B := w1.heap.size) (a := .slice A2 n c2) (b := .int .u64 out) (by first | (simp; done) | (simp (maxDischargeDepth := 7) [go_sem]; done)) (by first | (simp; done) | (simp (maxDischargeDepth := 7) [go_sem]; done)) (by first | (simp; done) | (simp (maxDischargeDepth := 7) [go_sem]; done))
        have ol := lt_of_cell o0
        replace vf := k2.free v0 vf
        replace v0 := k2.cell v0
        replace v1 := k2.cell v1
        replace vl := lt_of_cell v0
        replace uf := k2.free u0 uf
        replace u0 := k2.cell u0
        replace u1 := k2.cell u1
        replace ul := lt_of_cell u0
        replace rR := rangeAt_ext rR k2
        have hown3 := own_ext hown k2
        have hs1 := hx1.size
        simp at hs1
        obtain ⟨A', c', e', hVL, hfr⟩ := VL.own hown3 hbytes hlen hok
        obtain ⟨rfl, rfl⟩ : A2 = A' ∧ c2 = c' := by simpa using e'
        clear hown hown3 e'
        have neu : ∀ ad, A2 = some ad → ad.block ≠ w.heap.size + 1 + 1 := fun ad e => by have := hfr ad e; simp at this; omega
        go_wp2
        refine bodyPost_ret (v := .tuple #[.agg #[.slice A2 n c2, .int .u64 out], .int .i64 0, .int .i64 10]) (by simp (maxDischargeDepth := 7) [results, Try.results15, go_sem, u0, u1]) rfl ⟨⟨_, _, rfl, ?_, fun ad e => by have := hfr ad e; simp at this; omega⟩, ?_⟩
        · exact ((hVL.ext ((by repeat (first | assumption | exact Ext.refl _ | refine Ext.alloc ?_ _ | refine Ext.drew ?_ | refine Ext.drewN ?_ _ | refine Ext.setCell ?_ (by first | (simp; done) | omega | (simp; omega)) _ | refine Ext.trans (by assumption) ?_)))).setCell neu _).setCell neu _
        · exact (Ext.setCell ((by repeat (first | assumption | exact Ext.refl _ | refine Ext.alloc ?_ _ | refine Ext.drew ?_ | refine Ext.drewN ?_ _ | refine Ext.setCell ?_ (by first | (simp; done) | omega | (simp; omega)) _ | refine Ext.trans (by assumption) ?_))) (by show _ ≤ w.heap.size + 1 + 1; omega) _).setCell (by show _ ≤ w.heap.size + 1 + 1; omega) _
theorem put_any (A : Option Addr) (n c : Nat) (out : Nat) (ho : out < 18446744073709551616) (LS : List Lat) (val : Int) (r : List Int) (hr0 : RootOk r) (e : Nat) (he : e < 18446744073709551616) (w : World) (h : VL w A n c LS) :
    Calls Try.prog 15 #[.agg #[.slice A n c, .int .u64 out], .int .i64 val, .agg (rootC r).toArray, .int .u64 e] w fun e' w' => (∃ A2 c2, e' = .returned (.tuple #[.agg #[.slice A2 n c2, .int .u64 (putV LS out val r e).2.1], .int .i64 (putV LS out val r e).2.2.1, .int .i64 (putV LS out val r e).2.2.2]) ∧ VL w' A2 n c2 (putV LS out val r e).1) ∧ Ext w w' :=
  (put_fresh A n c out ho LS val r hr0 e he w h).mono fun _ _ ⟨⟨A2, c2, h1, h2, _⟩, hx⟩ => ⟨⟨A2, c2, h1, h2⟩, hx⟩
end Go.Proofs.Ytjhhfininnlkfaa
