/- The document's answer of layer 14: fit, Own, some. -/
import Derived.Test.YtjhhfininnlkfaaDeltaLaw
import Derived.Test.YtjhhfininnlkfaaDeltaRefMay
import Derived.Test.YtjhhfininnlkfaaWeightRef
namespace Go.Proofs.Ytjhhfininnlkfaa
open Go.RowKit Go.WideShapes Go.ChangeShapes Go.Joins Go.Deep
set_option linter.unusedVariables false
set_option linter.unusedSimpArgs false








namespace Delta
open Weight
theorem root_at {T : List Node} (hm : Tree.mayV T = true) {i : Nat} (hi : i < T.length) (r : List Int) : r = (Tree.nd T i).root ↔ (r ∈ Tree.roots T ∧ (Tree.roots T).idxOf r = i) := by
  have hn := Tree.nodup hm
  have hlt : i < (Tree.roots T).length := by unfold Tree.roots; simpa using hi
  have hg := Tree.roots_get (T := T) hi
  constructor
  · rintro rfl
    have hm : (Tree.nd T i).root ∈ Tree.roots T := List.mem_of_getElem? hg
    refine ⟨hm, ?_⟩
    have e : (Tree.roots T)[i] = (Tree.nd T i).root := by rw [List.getElem?_eq_getElem hlt] at hg; exact Option.some.inj hg
    rw [← e]
    exact hn.idxOf_getElem _ _
  · rintro ⟨h1, h2⟩
    have hl2 := List.idxOf_lt_length_of_mem h1
    have h3 : (Tree.roots T)[i]? = some r := by
      subst h2
      rw [List.getElem?_eq_getElem hl2, List.getElem_idxOf]
    rw [hg] at h3
    exact (Option.some.inj h3).symm
theorem one_at {T : List Node} {v but : List Lat} {l : List Int} (hm : Tree.mayV T = true) {i k : Nat} (hi : i < T.length) : oneF T v but l i k = if newB v but k = true ∧ (v.getD k Lat.none).root = (Tree.nd T i).root then at' l k else 0 := by
  unfold oneF hasB plc
  by_cases h : (v.getD k Lat.none).root = (Tree.nd T i).root
  · obtain ⟨h1, h2⟩ := (root_at hm hi _).1 h
    simp only [h1, h2, h, decide_true, Bool.and_true, and_true]
    rw [← h]
    simp only [h1, decide_true, Bool.and_true, h2, and_true]
  · have h' : ¬ ((v.getD k Lat.none).root ∈ Tree.roots T ∧ (Tree.roots T).idxOf (v.getD k Lat.none).root = i) := fun q => h ((root_at hm hi _).2 q)
    rw [if_neg (fun q => h' ⟨by have := q.1; simp at this; exact this.2, q.2⟩), if_neg (fun q => h q.2)]
theorem listOf_snoc (n : Nat) (f : Nat → Nat) : listOf (n + 1) f = listOf n f ++ [((f n : Nat) : Int)] := Weight.listOf_succ n f
theorem part_le' {v but : List Lat} {l : List Int} (h : Stake.overL l = false) (T : List Node) (i k : Nat) : sum k (oneF T v but l i) ≤ k * 1099511627776 := by
  rw [← accL_pairs]
  exact Nat.le_trans (accL_le h _ i) (Nat.mul_le_mul_right _ (pairs_len T v but k))
end Delta
set_option maxHeartbeats 1000000 in
theorem rdfit_any (A : Option Addr) (n c : Nat) (NS : List Node) (vA : Option Addr) (vn vc vo : Nat) (v : List Lat) (ho : vo < 18446744073709551616) (LA : Option Addr) (ln lc : Nat) (l : List Int) (w : World) (h : NL w A n c NS) (hv : VL w vA vn vc v) (hl : Ints w .u64 LA ln lc l) :
    Calls Try.prog 22 #[.agg #[.slice A n c], .agg #[.slice vA vn vc, .int .u64 vo], .slice LA ln lc] w fun e w' => e = .returned (.bool (Delta.fitV NS v vo l)) ∧ Ext w w' := by
  have HT := Lib.hid (fun W (k : Ext w W) => rmay_any A n c NS W (h.ext k))
  have HM := Lib.hid (fun W (k : Ext w W) => rvmay_any vA vn vc vo ho v W (hv.ext k))
  have HS := Lib.hid (fun W (k : Ext w W) => refSmay_any LA ln lc l W (hl.ext k))
  have hvl := hv.len
  have hll := hl.len
  have e : Delta.fitV NS v vo l = (Tree.mayV NS && (mayV v vo && (Stake.mayV l && decide (vn = ln)))) := by unfold Delta.fitV; rw [hvl, hll]
  rw [e]
  clear h hv hl hvl hll e
  generalize Tree.mayV NS = a at *
  generalize mayV v vo = b at *
  generalize Stake.mayV l = d at *
  have hq : ∃ q, decide (vn = ln) = q ∧ ((vn : Int) == ln) = q := by
    by_cases e : vn = ln
    · exact ⟨true, by simp [e], by simp [e]⟩
    · exact ⟨false, by simp [e], by simp; omega⟩
  obtain ⟨q, hq1, hq2⟩ := hq
  rw [hq1]
  clear hq1
  cases a with
  | false =>
    go_enter Try.func22, Try.ntmps22
    go_wp2_with fail
    refine (HT.out _ ((by repeat (first | assumption | exact Ext.refl _ | refine Ext.alloc ?_ _ | refine Ext.drew ?_ | refine Ext.drewN ?_ _ | refine Ext.setCell ?_ (by first | (simp; done) | omega | (simp; omega)) _ | refine Ext.trans (by assumption) ?_)))).mono ?_
    rintro e w1 ⟨rfl, hx1⟩
    have k1 : Ext w w1 := Ext.trans ((by repeat (first | assumption | exact Ext.refl _ | refine Ext.alloc ?_ _ | refine Ext.drew ?_ | refine Ext.drewN ?_ _ | refine Ext.setCell ?_ (by first | (simp; done) | omega | (simp; omega)) _ | refine Ext.trans (by assumption) ?_))) hx1
    obtain ⟨u0, u1, uf⟩ := hx1.box2 (B := w.heap.size + 1) (a := .slice vA vn vc) (b := .int .u64 vo) (by first | (simp; done) | (simp (maxDischargeDepth := 7) [go_sem]; done)) (by first | (simp; done) | (simp (maxDischargeDepth := 7) [go_sem]; done)) (by first | (simp; done) | (simp (maxDischargeDepth := 7) [go_sem]; done))
    have ul := lt_of_cell u0
    go_wp2_with fail
    refine (HM.out _ k1).mono ?_
    rintro e w2 ⟨rfl, hx2⟩
    replace uf := hx2.free u0 uf
    replace u0 := hx2.cell u0
    replace u1 := hx2.cell u1
    replace ul := lt_of_cell u0
    go_wp2_with fail
    refine (HS.out _ (k1.trans hx2)).mono ?_
    rintro e w3 ⟨rfl, rfl⟩
    go_wp2
    go_ret
    exact ⟨rfl, k1.trans hx2⟩
  | true =>
    cases b with
    | false =>
      go_enter Try.func22, Try.ntmps22
      go_wp2_with fail
      refine (HT.out _ ((by repeat (first | assumption | exact Ext.refl _ | refine Ext.alloc ?_ _ | refine Ext.drew ?_ | refine Ext.drewN ?_ _ | refine Ext.setCell ?_ (by first | (simp; done) | omega | (simp; omega)) _ | refine Ext.trans (by assumption) ?_)))).mono ?_
      rintro e w1 ⟨rfl, hx1⟩
      have k1 : Ext w w1 := Ext.trans ((by repeat (first | assumption | exact Ext.refl _ | refine Ext.alloc ?_ _ | refine Ext.drew ?_ | refine Ext.drewN ?_ _ | refine Ext.setCell ?_ (by first | (simp; done) | omega | (simp; omega)) _ | refine Ext.trans (by assumption) ?_))) hx1
      obtain ⟨u0, u1, uf⟩ := hx1.box2 (B := w.heap.size + 1) (a := .slice vA vn vc) (b := .int .u64 vo) (by first | (simp; done) | (simp (maxDischargeDepth := 7) [go_sem]; done)) (by first | (simp; done) | (simp (maxDischargeDepth := 7) [go_sem]; done)) (by first | (simp; done) | (simp (maxDischargeDepth := 7) [go_sem]; done))
      have ul := lt_of_cell u0
      go_wp2_with fail
      refine (HM.out _ k1).mono ?_
      rintro e w2 ⟨rfl, hx2⟩
      replace uf := hx2.free u0 uf
      replace u0 := hx2.cell u0
      replace u1 := hx2.cell u1
      replace ul := lt_of_cell u0
      go_wp2_with fail
      refine (HS.out _ (k1.trans hx2)).mono ?_
      rintro e w3 ⟨rfl, rfl⟩
      go_wp2
      go_ret
      exact ⟨rfl, k1.trans hx2⟩
    | true =>
      cases d with
      | false =>
        go_enter Try.func22, Try.ntmps22
        go_wp2_with fail
        refine (HT.out _ ((by repeat (first | assumption | exact Ext.refl _ | refine Ext.alloc ?_ _ | refine Ext.drew ?_ | refine Ext.drewN ?_ _ | refine Ext.setCell ?_ (by first | (simp; done) | omega | (simp; omega)) _ | refine Ext.trans (by assumption) ?_)))).mono ?_
        rintro e w1 ⟨rfl, hx1⟩
        have k1 : Ext w w1 := Ext.trans ((by repeat (first | assumption | exact Ext.refl _ | refine Ext.alloc ?_ _ | refine Ext.drew ?_ | refine Ext.drewN ?_ _ | refine Ext.setCell ?_ (by first | (simp; done) | omega | (simp; omega)) _ | refine Ext.trans (by assumption) ?_))) hx1
        obtain ⟨u0, u1, uf⟩ := hx1.box2 (B := w.heap.size + 1) (a := .slice vA vn vc) (b := .int .u64 vo) (by first | (simp; done) | (simp (maxDischargeDepth := 7) [go_sem]; done)) (by first | (simp; done) | (simp (maxDischargeDepth := 7) [go_sem]; done)) (by first | (simp; done) | (simp (maxDischargeDepth := 7) [go_sem]; done))
        have ul := lt_of_cell u0
        go_wp2_with fail
        refine (HM.out _ k1).mono ?_
        rintro e w2 ⟨rfl, hx2⟩
        replace uf := hx2.free u0 uf
        replace u0 := hx2.cell u0
        replace u1 := hx2.cell u1
        replace ul := lt_of_cell u0
        go_wp2_with fail
        refine (HS.out _ (k1.trans hx2)).mono ?_
        rintro e w3 ⟨rfl, rfl⟩
        go_wp2
        go_ret
        exact ⟨rfl, k1.trans hx2⟩
      | true =>
        go_enter Try.func22, Try.ntmps22
        go_wp2_with fail
        refine (HT.out _ ((by repeat (first | assumption | exact Ext.refl _ | refine Ext.alloc ?_ _ | refine Ext.drew ?_ | refine Ext.drewN ?_ _ | refine Ext.setCell ?_ (by first | (simp; done) | omega | (simp; omega)) _ | refine Ext.trans (by assumption) ?_)))).mono ?_
        rintro e w1 ⟨rfl, hx1⟩
        have k1 : Ext w w1 := Ext.trans ((by repeat (first | assumption | exact Ext.refl _ | refine Ext.alloc ?_ _ | refine Ext.drew ?_ | refine Ext.drewN ?_ _ | refine Ext.setCell ?_ (by first | (simp; done) | omega | (simp; omega)) _ | refine Ext.trans (by assumption) ?_))) hx1
        obtain ⟨u0, u1, uf⟩ := hx1.box2 (B := w.heap.size + 1) (a := .slice vA vn vc) (b := .int .u64 vo) (by first | (simp; done) | (simp (maxDischargeDepth := 7) [go_sem]; done)) (by first | (simp; done) | (simp (maxDischargeDepth := 7) [go_sem]; done)) (by first | (simp; done) | (simp (maxDischargeDepth := 7) [go_sem]; done))
        have ul := lt_of_cell u0
        go_wp2_with fail
        refine (HM.out _ k1).mono ?_
        rintro e w2 ⟨rfl, hx2⟩
        replace uf := hx2.free u0 uf
        replace u0 := hx2.cell u0
        replace u1 := hx2.cell u1
        replace ul := lt_of_cell u0
        go_wp2_with fail
        refine (HS.out _ (k1.trans hx2)).mono ?_
        rintro e w3 ⟨rfl, rfl⟩
        go_wp2
        go_ret
        exact ⟨by simp, k1.trans hx2⟩




set_option maxRecDepth 8000 in
set_option maxHeartbeats 2000000 in
theorem rdown_any' (A : Option Addr) (n c : Nat) (NS : List Node) (vA : Option Addr) (vn vc vo : Nat) (v : List Lat) (ho : vo < 18446744073709551616) (LA : Option Addr) (ln lc : Nat) (l : List Int) (w : World) (h : NL w A n c NS) (hv : VL w vA vn vc v) (hl : Ints w .u64 LA ln lc l) (hf : Delta.fitV NS v vo l = true) :
    Calls Try.prog 9 #[.agg #[.slice A n c], .agg #[.slice vA vn vc, .int .u64 vo], .slice LA ln lc] w fun e w' => (∃ x, e = .returned (.tuple #[x, .bool true]) ∧ IsInts w' .u64 x (Delta.sumV NS v [] l)) ∧ Ext w w' := by
  have HF := Lib.hid (fun W (k : Ext w W) => rdfit_any A n c NS vA vn vc vo v ho LA ln lc l W (h.ext k) (hv.ext k) (hl.ext k))
  rw [hf] at HF
  obtain ⟨f1, f2, f3, f4⟩ := Delta.fitV_iff.1 hf
  obtain ⟨s1, s2, s3⟩ := Stake.mayV_iff.1 f3
  have hvl := hv.len
  have hll := hl.len
  have hnl := h.len
  have h12 := Tree.len_le f1
  have HN := Lib.hid (fun W (k : Ext w W) => h.ext k)
  have HV := Lib.hid (fun W (k : Ext w W) => hv.ext k)
  have HL := Lib.hid (fun W (k : Ext w W) => hl.ext k)
  have HMA := Lib.hid f1
  have HOV := Lib.hid s3
  have HV8 : Hid (v.length ≤ 8) := Lib.hid (by omega)
  have hl8 : ln ≤ 8 := by omega
  have hvn : vn = ln := by omega
  subst hvn
  rw [hnl] at h12
  have HNN := Lib.hid hnl
  have HLV : Hid (v.length = vn) := hvl
  clear h hv hl hf f1 f2 f3 f4 s1 s2 s3 hvl hll hnl
  go_enter Try.func9, Try.ntmps9
  go_wp2_with fail
  refine (HF.out _ ((by repeat (first | assumption | exact Ext.refl _ | refine Ext.alloc ?_ _ | refine Ext.drew ?_ | refine Ext.drewN ?_ _ | refine Ext.setCell ?_ (by first | (simp; done) | omega | (simp; omega)) _ | refine Ext.trans (by assumption) ?_)))).mono ?_
  rintro e w1 ⟨rfl, hx1⟩
  have k1 : Ext w w1 := Ext.trans ((by repeat (first | assumption | exact Ext.refl _ | refine Ext.alloc ?_ _ | refine Ext.drew ?_ | refine Ext.drewN ?_ _ | refine Ext.setCell ?_ (by first | (simp; done) | omega | (simp; omega)) _ | refine Ext.trans (by assumption) ?_))) hx1
  have t0 := hx1.cell (p := ⟨w.heap.size, 0, none⟩) (v := .slice A n c) (by first | (simp; done) | (simp (maxDischargeDepth := 7) [go_sem]; done))
  have v0 := hx1.cell (p := ⟨w.heap.size + 1, 0, none⟩) (v := .slice vA vn vc) (by first | (simp; done) | (simp (maxDischargeDepth := 7) [go_sem]; done))
  have T0 := Lib.hid (And.intro t0 v0)
  clear HF hx1
  go_wp2
  clear t0 v0
  obtain ⟨f, hfdef⟩ : ∃ f, Delta.ownF NS v [] l = f := ⟨_, rfl⟩
  have HFD := Lib.hid hfdef
  have O0 : w1.ownsRow w1.heap.size 26 1 (.slice none 0 0) 0 ((Weight.listOf 0 f).map (Value.int .u64)) := World.ownsRow_nil _ _ _ _
  clear hfdef
  go_loopw [9, 10, 11, 12] (fun o i' _ _ wr => ∃ i : Nat, i ≤ n ∧ i' = .int .i64 i ∧ wr.ownsRow w1.heap.size 26 1 o i ((Weight.listOf i f).map (Value.int .u64)) ∧ Ext w1 wr) (fun _ i' _ _ _ => n - (intOf i').toNat)
  case atStart => exact ⟨0, Nat.zero_le _, rfl, O0, Ext.refl _⟩
  case round =>
    clear O0
    obtain ⟨i, hi, rfl, hown, hx⟩ := hrel
    have kr := k1.trans hx
    have HOW := Lib.hid hown
    clear hown
    have t0 := hx.cell T0.out.1
    have v0 := hx.cell T0.out.2
    obtain ⟨w2, e2⟩ : ∃ w2, w2 = wr := ⟨_, rfl⟩
    subst e2
    by_cases hin : i < n
    · have gi : (i : Int) < n := by omega
      obtain ⟨bt, ot, rfl, hrt, hokt⟩ := (HN.out _ kr).at' hin
      change w2.rangeAt _ _ (Tree.nd NS i).cells at hrt
      replace hokt : (Tree.nd NS i).Ok := hokt
      have HONE := Lib.hid (fun k => Delta.one_at (T := NS) (v := v) (but := []) (l := l) (k := k) HMA.out (by rw [HNN.out]; exact hin))
      have HPL := Lib.hid (fun k => Delta.part_le' (v := v) (but := []) HOV.out NS i k)
      have HFI : Hid (f i = Weight.sum vn (Delta.oneF NS v [] l i)) := by show _ = _; rw [← HFD.out, Delta.ownF_sum, HLV.out]
      have hi32' : (Try.prog.info? 38).map (·.size) = some (rootC (Tree.nd NS i).root).length := by rw [rootC_len hokt.1]; kernel_rfl
      have hry : w2.rangeAt bt (ot + i * 35) (rootC (Tree.nd NS i).root) := rangeAt_part (xs := []) (ys := rootC (Tree.nd NS i).root) (zs := [Value.int .i64 (Tree.nd NS i).par, Value.int .u64 (Tree.nd NS i).slot, Value.int .u64 (Tree.nd NS i).just]) (k := 0) (by rw [List.nil_append]; exact hrt) rfl
      have hoky := hokt.1
      clear hrt hokt
      generalize (Tree.nd NS i).root = y at *
      have hj32 := hi32'
      go_wp2
      have E0 : (.int .u64 0 : Value) = .int .u64 (Weight.sum 0 (Delta.oneF NS v [] l i) : Nat) := rfl
      generalize Delta.oneF NS v [] l i = g at *
      go_loopw [11, 12] (fun s k' wq => ∃ k : Nat, k ≤ vn ∧ k' = .int .i64 k ∧ s = .int .u64 (Weight.sum k g : Nat) ∧ Ext w2 wq) (fun _ k' _ => vn - (intOf k').toNat)
      case atStart => exact ⟨0, Nat.zero_le _, rfl, E0, Ext.refl _⟩
      case round =>
        clear E0
        obtain ⟨k, hk, rfl, rfl, hq⟩ := hrel
        have ryr := rangeAt_ext hry hq
        replace t0 := hq.cell t0
        replace v0 := hq.cell v0
        have kq := kr.trans hq
        by_cases hkn : k < vn
        · have gk : (k : Int) < vn := by omega
          obtain ⟨b, off, rfl, hr, hok⟩ := (HV.out _ kq).at' hkn
          have q0 := rangeAt_head hr (j := 0) (v := .bool (v.getD k Lat.none).has) rfl
          rw [Nat.add_zero] at q0
          have hone := HONE.out k
          rw [Delta.newB_nil] at hone
          have rxr := rangeAt_part hr (k := 1) rfl
          have hi32 : (Try.prog.info? 38).map (·.size) = some (rootC (v.getD k Lat.none).root).length := by rw [rootC_len hok.1]; kernel_rfl
          have hsu := Weight.sum_succ k g
          have hpl := HPL.out (k + 1)
          generalize v.getD k Lat.none = x at *
          cases hh : x.has with
          | false =>
            rw [hh] at hone q0
            rw [if_neg (by simp)] at hone
            rw [hone, Nat.add_zero] at hsu
            have HS1 := Lib.hid hsu
            clear hone hsu hpl hh
            go_wp2
            refine wp_region_quiet_lit (by kernel_rfl) (by kernel_rfl) ?_
            repeat (first | go_big_quiet_skip | (go_big_quiet_want; first | ((first | (refine quiet_load_mid 38 _ rfl _ _ rfl (rootC x.root) _ (fun W ⟨nn, hn⟩ => hn ▸ rangeAt_ext rxr ((Ext.refl _).drewN nn)) Try.underlying38 rfl hi32 ?_) | (refine quiet_load_mid 38 _ rfl _ _ rfl (rootC y) _ (fun W ⟨nn, hn⟩ => hn ▸ rangeAt_ext ryr ((Ext.refl _).drewN nn)) Try.underlying38 rfl hj32 ?_)); (try simp only [Act.put, List.setIfInBounds_toArray, List.set_cons_zero, List.set_cons_succ]); go_big_quiet_on) | (go_big_quiet_op; first | go_big_quiet_on | go_big_quiet_call (fail))))
            refine wpQuiet_nil ?_
            intro _ hw'
            obtain ⟨nq', hw''⟩ := hw'
            subst hw''
            go_wp2
            go_roundw
            case rel =>
              first | exact ⟨k + 1, by omega, by go_num, (by rw [HS1.out]; first | rfl | simp), hq.drewN _⟩ | (refine ⟨_, _, ⟨k + 1, by omega, ?_, (by rw [HS1.out]; first | rfl | simp), hq.drewN _⟩, rfl, rfl⟩; go_num)
            case measure => simp [intOf]; omega
          | true =>
            rw [hh] at hone q0
            by_cases hrt : x.root = y
            · rw [if_pos ⟨rfl, hrt⟩] at hone
              have he : ∀ W, (binOp .eql 38 (.agg (rootC x.root).toArray) (.agg (rootC y).toArray)).run Try.prog W = .ok (.bool true) W := fun W => root_eql hok.1 hoky (b := true) (by simp [hrt]) W
              rw [hone] at hsu
              have hli := HL.out _ kq
              have hn64 := (hli.nat64 k).1
              obtain ⟨bl, ol, rfl, hcl⟩ := hli.cells (by omega)
              have dl := hcl k hkn
              rw [hn64] at dl
              clear hli hn64 hcl
              generalize Weight.at' l k = yl at *
              rw [hsu] at hpl
              have hadd : IntKind.u64.wrap (((Weight.sum k g : Nat) : Int) + (yl : Int)) = ((Weight.sum k g + yl : Nat) : Int) := by rw [IntKind.wrap_u64]; have := Nat.mul_le_mul_right 1099511627776 (show k + 1 ≤ 8 by omega); omega
              have HS1 := Lib.hid hsu
              clear hone hsu hpl hh hrt
              go_wp2
              refine wp_region_quiet_lit (by kernel_rfl) (by kernel_rfl) ?_
              repeat (first | go_big_quiet_skip | (go_big_quiet_want; first | ((first | (refine quiet_load_mid 38 _ rfl _ _ rfl (rootC x.root) _ (fun W ⟨nn, hn⟩ => hn ▸ rangeAt_ext rxr ((Ext.refl _).drewN nn)) Try.underlying38 rfl hi32 ?_) | (refine quiet_load_mid 38 _ rfl _ _ rfl (rootC y) _ (fun W ⟨nn, hn⟩ => hn ▸ rangeAt_ext ryr ((Ext.refl _).drewN nn)) Try.underlying38 rfl hj32 ?_)); (try simp only [Act.put, List.setIfInBounds_toArray, List.set_cons_zero, List.set_cons_succ]); go_big_quiet_on) | (go_big_quiet_op; first | go_big_quiet_on | go_big_quiet_call (fail))))
              refine wpQuiet_nil ?_
              intro _ hw'
              obtain ⟨nq', hw''⟩ := hw'
              subst hw''
              go_wp2
              go_roundw
              case rel =>
                first | exact ⟨k + 1, by omega, by go_num, (by rw [HS1.out]; first | rfl | simp), hq.drewN _⟩ | (refine ⟨_, _, ⟨k + 1, by omega, ?_, (by rw [HS1.out]; first | rfl | simp), hq.drewN _⟩, rfl, rfl⟩; go_num)
              case measure => simp [intOf]; omega
            · rw [if_neg (fun q => hrt q.2)] at hone
              have he : ∀ W, (binOp .eql 38 (.agg (rootC x.root).toArray) (.agg (rootC y).toArray)).run Try.prog W = .ok (.bool false) W := fun W => root_eql hok.1 hoky (b := false) (by simp [hrt]) W
              rw [hone, Nat.add_zero] at hsu
              have HS1 := Lib.hid hsu
              clear hone hsu hpl hh hrt
              go_wp2
              refine wp_region_quiet_lit (by kernel_rfl) (by kernel_rfl) ?_
              repeat (first | go_big_quiet_skip | (go_big_quiet_want; first | ((first | (refine quiet_load_mid 38 _ rfl _ _ rfl (rootC x.root) _ (fun W ⟨nn, hn⟩ => hn ▸ rangeAt_ext rxr ((Ext.refl _).drewN nn)) Try.underlying38 rfl hi32 ?_) | (refine quiet_load_mid 38 _ rfl _ _ rfl (rootC y) _ (fun W ⟨nn, hn⟩ => hn ▸ rangeAt_ext ryr ((Ext.refl _).drewN nn)) Try.underlying38 rfl hj32 ?_)); (try simp only [Act.put, List.setIfInBounds_toArray, List.set_cons_zero, List.set_cons_succ]); go_big_quiet_on) | (go_big_quiet_op; first | go_big_quiet_on | go_big_quiet_call (fail))))
              refine wpQuiet_nil ?_
              intro _ hw'
              obtain ⟨nq', hw''⟩ := hw'
              subst hw''
              go_wp2
              go_roundw
              case rel =>
                first | exact ⟨k + 1, by omega, by go_num, (by rw [HS1.out]; first | rfl | simp), hq.drewN _⟩ | (refine ⟨_, _, ⟨k + 1, by omega, ?_, (by rw [HS1.out]; first | rfl | simp), hq.drewN _⟩, rfl, rfl⟩; go_num)
              case measure => simp [intOf]; omega
        · obtain rfl : k = vn := by omega
          rw [← HFI.out]
          have HOW2 := Lib.hid (own_ext HOW.out hq)
          have hxq := hx.trans hq
          have hsz := hxq.size
          obtain ⟨fi, hfi⟩ : ∃ fi, f i = fi := ⟨_, rfl⟩
          rw [hfi]
          have HFJ := Lib.hid hfi
          clear hfi
          clear HFI HOW HONE HPL hry ryr
          go_wp2_with (at_builtin; refine wpList_app rowU64 rfl _ _ rfl w1.heap.size _ _ _ rfl (HOW2.out.alloc _) (some ⟨wr.heap.size, 0, none⟩) 1 1 [.int .u64 (fi : Nat)] rfl (src_at rfl (by simp)) (by omega) (by first | (simp; done) | (simp; omega)) ?_; intro v' w5 hown5 hgrow5 _)
          have hx5 : Ext w1 w5 := (hxq.alloc _).grown hgrow5 (fun j e => own_from HOW2.out j e)
          go_roundw
          case rel =>
            have ho5 : w5.ownsRow w1.heap.size 26 1 v' (i + 1) ((Weight.listOf (i + 1) f).map (Value.int .u64)) := by rw [Delta.listOf_snoc, List.map_append, HFJ.out]; exact hown5
            first | exact ⟨i + 1, by omega, by go_num, ho5, hx5⟩ | (refine ⟨_, _, _, _, ⟨i + 1, by omega, ?_, ho5, hx5⟩, rfl, rfl, rfl, rfl⟩; go_num)
          case measure => simp [intOf]; omega
    · obtain rfl : i = n := by omega
      go_wp2
      go_ret2
      refine ⟨⟨_, rfl, ?_⟩, kr⟩
      unfold Delta.sumV
      rw [HNN.out, HFD.out]
      refine isInts_own HOW.out (by omega) (fun x hx => ?_)
      rw [← HFD.out, ← HNN.out] at hx
      exact Delta.sumV_wf HOV.out HV8.out x hx
set_option maxRecDepth 8000 in
set_option maxHeartbeats 2000000 in
theorem rdsome_any (A : Option Addr) (n c : Nat) (NS : List Node) (vA : Option Addr) (vn vc vo : Nat) (v : List Lat) (uA : Option Addr) (uc uo : Nat) (u : List Lat) (LA : Option Addr) (lc : Nat) (l : List Int) (w : World) (h : NL w A n c NS) (hv : VL w vA vn vc v) (hu : VL w uA vn uc u) (hl : Ints w .u64 LA vn lc l) (f1 : Tree.mayV NS = true) (f3 : Stake.mayV l = true) :
    Calls Try.prog 25 #[.agg #[.slice A n c], .agg #[.slice vA vn vc, .int .u64 vo], .agg #[.slice uA vn uc, .int .u64 uo], .slice LA vn lc] w fun e w' => (∃ x, e = .returned x ∧ IsInts w' .u64 x (Delta.sumV NS v u l)) ∧ Ext w w' := by
  obtain ⟨s1, s2, s3⟩ := Stake.mayV_iff.1 f3
  have hvl := hv.len
  have hul := hu.len
  have hll := hl.len
  have hnl := h.len
  have h12 := Tree.len_le f1
  have HN := Lib.hid (fun W (k : Ext w W) => h.ext k)
  have HV := Lib.hid (fun W (k : Ext w W) => hv.ext k)
  have HU := Lib.hid (fun W (k : Ext w W) => hu.ext k)
  have HL := Lib.hid (fun W (k : Ext w W) => hl.ext k)
  have HMA := Lib.hid f1
  have HOV := Lib.hid s3
  have HV8 : Hid (v.length ≤ 8) := Lib.hid (by omega)
  have hl8 : vn ≤ 8 := by omega
  rw [hnl] at h12
  have HNN := Lib.hid hnl
  have HLV : Hid (v.length = vn) := hvl
  have HLU : Hid (u.length = vn) := hul
  clear h hv hu hl f1 f3 s1 s2 s3 hvl hul hll hnl
  go_enter Try.func25, Try.ntmps25
  go_wp2
  obtain ⟨w1, hw1⟩ : ∃ w1, ((w.alloc (.cells #[.slice A n c] 24)).alloc (.cells #[.slice vA vn vc, .int .u64 vo] 28)).alloc (.cells #[.slice uA vn uc, .int .u64 uo] 28) = w1 := ⟨_, rfl⟩
  have k1 : Ext w w1 := by rw [← hw1]; exact (by repeat (first | assumption | exact Ext.refl _ | refine Ext.alloc ?_ _ | refine Ext.drew ?_ | refine Ext.drewN ?_ _ | refine Ext.setCell ?_ (by first | (simp; done) | omega | (simp; omega)) _ | refine Ext.trans (by assumption) ?_))
  have t0 : w1.cell? ⟨w.heap.size, 0, none⟩ = some (.slice A n c) := by rw [← hw1]; simp (maxDischargeDepth := 7) [go_sem]
  have v0 : w1.cell? ⟨w.heap.size + 1, 0, none⟩ = some (.slice vA vn vc) := by rw [← hw1]; simp (maxDischargeDepth := 7) [go_sem]
  have u0 : w1.cell? ⟨w.heap.size + 1 + 1, 0, none⟩ = some (.slice uA vn uc) := by rw [← hw1]; simp (maxDischargeDepth := 7) [go_sem]
  rw [hw1]
  have T0 := Lib.hid (And.intro t0 (And.intro v0 u0))
  clear hw1 t0 v0 u0
  obtain ⟨f, hfdef⟩ : ∃ f, Delta.ownF NS v u l = f := ⟨_, rfl⟩
  have HFD := Lib.hid hfdef
  have O0 : w1.ownsRow w1.heap.size 26 1 (.slice none 0 0) 0 ((Weight.listOf 0 f).map (Value.int .u64)) := World.ownsRow_nil _ _ _ _
  clear hfdef
  go_loopw [9, 10, 11, 12] (fun o i' _ _ wr => ∃ i : Nat, i ≤ n ∧ i' = .int .i64 i ∧ wr.ownsRow w1.heap.size 26 1 o i ((Weight.listOf i f).map (Value.int .u64)) ∧ Ext w1 wr) (fun _ i' _ _ _ => n - (intOf i').toNat)
  case atStart => exact ⟨0, Nat.zero_le _, rfl, O0, Ext.refl _⟩
  case round =>
    clear O0
    obtain ⟨i, hi, rfl, hown, hx⟩ := hrel
    have kr := k1.trans hx
    have HOW := Lib.hid hown
    clear hown
    have t0 := hx.cell T0.out.1
    have v0 := hx.cell T0.out.2.1
    have u0 := hx.cell T0.out.2.2
    obtain ⟨w2, e2⟩ : ∃ w2, w2 = wr := ⟨_, rfl⟩
    subst e2
    by_cases hin : i < n
    · have gi : (i : Int) < n := by omega
      obtain ⟨bt, ot, rfl, hrt, hokt⟩ := (HN.out _ kr).at' hin
      change w2.rangeAt _ _ (Tree.nd NS i).cells at hrt
      replace hokt : (Tree.nd NS i).Ok := hokt
      have HONE := Lib.hid (fun k => Delta.one_at (T := NS) (v := v) (but := u) (l := l) (k := k) HMA.out (by rw [HNN.out]; exact hin))
      have HPL := Lib.hid (fun k => Delta.part_le' (v := v) (but := u) HOV.out NS i k)
      have HFI : Hid (f i = Weight.sum vn (Delta.oneF NS v u l i)) := by show _ = _; rw [← HFD.out, Delta.ownF_sum, HLV.out]
      have hi32' : (Try.prog.info? 38).map (·.size) = some (rootC (Tree.nd NS i).root).length := by rw [rootC_len hokt.1]; kernel_rfl
      have hry : w2.rangeAt bt (ot + i * 35) (rootC (Tree.nd NS i).root) := rangeAt_part (xs := []) (ys := rootC (Tree.nd NS i).root) (zs := [Value.int .i64 (Tree.nd NS i).par, Value.int .u64 (Tree.nd NS i).slot, Value.int .u64 (Tree.nd NS i).just]) (k := 0) (by rw [List.nil_append]; exact hrt) rfl
      have hoky := hokt.1
      clear hrt hokt
      generalize (Tree.nd NS i).root = y at *
      have hj32 := hi32'
      go_wp2
      have E0 : (.int .u64 0 : Value) = .int .u64 (Weight.sum 0 (Delta.oneF NS v u l i) : Nat) := rfl
      generalize Delta.oneF NS v u l i = g at *
      go_loopw [11, 12] (fun s k' wq => ∃ k : Nat, k ≤ vn ∧ k' = .int .i64 k ∧ s = .int .u64 (Weight.sum k g : Nat) ∧ Ext w2 wq) (fun _ k' _ => vn - (intOf k').toNat)
      case atStart => exact ⟨0, Nat.zero_le _, rfl, E0, Ext.refl _⟩
      case round =>
        clear E0
        obtain ⟨k, hk, rfl, rfl, hq⟩ := hrel
        have ryr := rangeAt_ext hry hq
        replace t0 := hq.cell t0
        replace v0 := hq.cell v0
        replace u0 := hq.cell u0
        have kq := kr.trans hq
        by_cases hkn : k < vn
        · have gk : (k : Int) < vn := by omega
          obtain ⟨b, off, rfl, hr, hok⟩ := (HV.out _ kq).at' hkn
          have q0 := rangeAt_head hr (j := 0) (v := .bool (v.getD k Lat.none).has) rfl
          rw [Nat.add_zero] at q0
          have hone := HONE.out k
          rw [Delta.newB_in (by rw [HLU.out]; exact hkn)] at hone
          obtain ⟨bz, oz, rfl, hz, hokz⟩ := (HU.out _ kq).at' hkn
          have hi34 : (Try.prog.info? 40).map (·.size) = some (v.getD k Lat.none).cells.length := by rw [Lat.len hok]; kernel_rfl
          have hj34 : (Try.prog.info? 40).map (·.size) = some (u.getD k Lat.none).cells.length := by rw [Lat.len hokz]; kernel_rfl
          generalize u.getD k Lat.none = z at *
          have rxr := rangeAt_part hr (k := 1) rfl
          have hi32 : (Try.prog.info? 38).map (·.size) = some (rootC (v.getD k Lat.none).root).length := by rw [rootC_len hok.1]; kernel_rfl
          have hsu := Weight.sum_succ k g
          have hpl := HPL.out (k + 1)
          generalize v.getD k Lat.none = x at *
          cases hh : x.has with
          | false =>
            rw [hh] at hone q0
            rw [if_neg (by simp)] at hone
            rw [hone, Nat.add_zero] at hsu
            have HS1 := Lib.hid hsu
            clear hone hsu hpl hh
            go_wp2
            refine wp_region_quiet_lit (by kernel_rfl) (by kernel_rfl) ?_
            repeat (first | go_big_quiet_skip | (go_big_quiet_want; first | ((first | (refine quiet_load_mid 38 _ rfl _ _ rfl (rootC x.root) _ (fun W ⟨nn, hn⟩ => hn ▸ rangeAt_ext rxr ((Ext.refl _).drewN nn)) Try.underlying38 rfl hi32 ?_) | (refine quiet_load_mid 38 _ rfl _ _ rfl (rootC y) _ (fun W ⟨nn, hn⟩ => hn ▸ rangeAt_ext ryr ((Ext.refl _).drewN nn)) Try.underlying38 rfl hj32 ?_)); (try simp only [Act.put, List.setIfInBounds_toArray, List.set_cons_zero, List.set_cons_succ]); go_big_quiet_on) | (go_big_quiet_op; first | go_big_quiet_on | go_big_quiet_call (fail))))
            refine wpQuiet_nil ?_
            intro _ hw'
            obtain ⟨nq', hw''⟩ := hw'
            subst hw''
            go_wp2
            go_roundw
            case rel =>
              first | exact ⟨k + 1, by omega, by go_num, (by rw [HS1.out]; first | rfl | simp), hq.drewN _⟩ | (refine ⟨_, _, ⟨k + 1, by omega, ?_, (by rw [HS1.out]; first | rfl | simp), hq.drewN _⟩, rfl, rfl⟩; go_num)
            case measure => simp [intOf]; omega
          | true =>
            rw [hh] at hone q0
            by_cases hrt : x.root = y
            · have he : ∀ W, (binOp .eql 38 (.agg (rootC x.root).toArray) (.agg (rootC y).toArray)).run Try.prog W = .ok (.bool true) W := fun W => root_eql hok.1 hoky (b := true) (by simp [hrt]) W
              have hne : ∀ W, (binOp .neq 40 (.agg x.cells.toArray) (.agg z.cells.toArray)).run Try.prog W = .ok (.bool (!(z.eqb x))) W := fun W => Lat.neq hok hokz (b := z.eqb x) (by rw [Lat.eqb_iff]; exact eq_comm) W
              cases hqz : z.eqb x with
              | true =>
                rw [hqz] at hone hne
                rw [if_neg (by simp)] at hone
                rw [hone, Nat.add_zero] at hsu
                have HS1 := Lib.hid hsu
                clear hone hsu hpl hh hrt hqz
                go_wp2
                refine wp_region_quiet_lit (by kernel_rfl) (by kernel_rfl) ?_
                repeat (first | go_big_quiet_skip | (go_big_quiet_want; first | ((first | (refine quiet_load_mid 38 _ rfl _ _ rfl (rootC x.root) _ (fun W ⟨nn, hn⟩ => hn ▸ rangeAt_ext rxr ((Ext.refl _).drewN nn)) Try.underlying38 rfl hi32 ?_) | (refine quiet_load_mid 38 _ rfl _ _ rfl (rootC y) _ (fun W ⟨nn, hn⟩ => hn ▸ rangeAt_ext ryr ((Ext.refl _).drewN nn)) Try.underlying38 rfl hj32 ?_) | (refine quiet_load_mid 40 _ rfl _ _ rfl x.cells _ (fun W ⟨nn, hn⟩ => hn ▸ rangeAt_ext hr ((Ext.refl _).drewN nn)) Try.underlying40 rfl hi34 ?_) | (refine quiet_load_mid 40 _ rfl _ _ rfl z.cells _ (fun W ⟨nn, hn⟩ => hn ▸ rangeAt_ext hz ((Ext.refl _).drewN nn)) Try.underlying40 rfl hj34 ?_)); (try simp only [Act.put, List.setIfInBounds_toArray, List.set_cons_zero, List.set_cons_succ]); go_big_quiet_on) | (go_big_quiet_op; first | go_big_quiet_on | go_big_quiet_call (fail))))
                refine wpQuiet_nil ?_
                intro _ hw'
                obtain ⟨nq', hw''⟩ := hw'
                subst hw''
                go_wp2
                go_roundw
                case rel =>
                  first | exact ⟨k + 1, by omega, by go_num, (by rw [HS1.out]; first | rfl | simp), hq.drewN _⟩ | (refine ⟨_, _, ⟨k + 1, by omega, ?_, (by rw [HS1.out]; first | rfl | simp), hq.drewN _⟩, rfl, rfl⟩; go_num)
                case measure => simp [intOf]; omega
              | false =>
                rw [hqz] at hone hne
                rw [if_pos ⟨by simp, hrt⟩] at hone
                rw [hone] at hsu
                have hli := HL.out _ kq
                have hn64 := (hli.nat64 k).1
                obtain ⟨bl, ol, rfl, hcl⟩ := hli.cells (by omega)
                have dl := hcl k hkn
                rw [hn64] at dl
                clear hli hn64 hcl
                generalize Weight.at' l k = yl at *
                rw [hsu] at hpl
                have hadd : IntKind.u64.wrap (((Weight.sum k g : Nat) : Int) + (yl : Int)) = ((Weight.sum k g + yl : Nat) : Int) := by rw [IntKind.wrap_u64]; have := Nat.mul_le_mul_right 1099511627776 (show k + 1 ≤ 8 by omega); omega
                have HS1 := Lib.hid hsu
                clear hone hsu hpl hh hrt hqz
                go_wp2
                refine wp_region_quiet_lit (by kernel_rfl) (by kernel_rfl) ?_
                repeat (first | go_big_quiet_skip | (go_big_quiet_want; first | ((first | (refine quiet_load_mid 38 _ rfl _ _ rfl (rootC x.root) _ (fun W ⟨nn, hn⟩ => hn ▸ rangeAt_ext rxr ((Ext.refl _).drewN nn)) Try.underlying38 rfl hi32 ?_) | (refine quiet_load_mid 38 _ rfl _ _ rfl (rootC y) _ (fun W ⟨nn, hn⟩ => hn ▸ rangeAt_ext ryr ((Ext.refl _).drewN nn)) Try.underlying38 rfl hj32 ?_) | (refine quiet_load_mid 40 _ rfl _ _ rfl x.cells _ (fun W ⟨nn, hn⟩ => hn ▸ rangeAt_ext hr ((Ext.refl _).drewN nn)) Try.underlying40 rfl hi34 ?_) | (refine quiet_load_mid 40 _ rfl _ _ rfl z.cells _ (fun W ⟨nn, hn⟩ => hn ▸ rangeAt_ext hz ((Ext.refl _).drewN nn)) Try.underlying40 rfl hj34 ?_)); (try simp only [Act.put, List.setIfInBounds_toArray, List.set_cons_zero, List.set_cons_succ]); go_big_quiet_on) | (go_big_quiet_op; first | go_big_quiet_on | go_big_quiet_call (fail))))
                refine wpQuiet_nil ?_
                intro _ hw'
                obtain ⟨nq', hw''⟩ := hw'
                subst hw''
                go_wp2
                go_roundw
                case rel =>
                  first | exact ⟨k + 1, by omega, by go_num, (by rw [HS1.out]; first | rfl | simp), hq.drewN _⟩ | (refine ⟨_, _, ⟨k + 1, by omega, ?_, (by rw [HS1.out]; first | rfl | simp), hq.drewN _⟩, rfl, rfl⟩; go_num)
                case measure => simp [intOf]; omega
            · rw [if_neg (fun q => hrt q.2)] at hone
              have he : ∀ W, (binOp .eql 38 (.agg (rootC x.root).toArray) (.agg (rootC y).toArray)).run Try.prog W = .ok (.bool false) W := fun W => root_eql hok.1 hoky (b := false) (by simp [hrt]) W
              rw [hone, Nat.add_zero] at hsu
              have HS1 := Lib.hid hsu
              clear hone hsu hpl hh hrt
              go_wp2
              refine wp_region_quiet_lit (by kernel_rfl) (by kernel_rfl) ?_
              repeat (first | go_big_quiet_skip | (go_big_quiet_want; first | ((first | (refine quiet_load_mid 38 _ rfl _ _ rfl (rootC x.root) _ (fun W ⟨nn, hn⟩ => hn ▸ rangeAt_ext rxr ((Ext.refl _).drewN nn)) Try.underlying38 rfl hi32 ?_) | (refine quiet_load_mid 38 _ rfl _ _ rfl (rootC y) _ (fun W ⟨nn, hn⟩ => hn ▸ rangeAt_ext ryr ((Ext.refl _).drewN nn)) Try.underlying38 rfl hj32 ?_)); (try simp only [Act.put, List.setIfInBounds_toArray, List.set_cons_zero, List.set_cons_succ]); go_big_quiet_on) | (go_big_quiet_op; first | go_big_quiet_on | go_big_quiet_call (fail))))
              refine wpQuiet_nil ?_
              intro _ hw'
              obtain ⟨nq', hw''⟩ := hw'
              subst hw''
              go_wp2
              go_roundw
              case rel =>
                first | exact ⟨k + 1, by omega, by go_num, (by rw [HS1.out]; first | rfl | simp), hq.drewN _⟩ | (refine ⟨_, _, ⟨k + 1, by omega, ?_, (by rw [HS1.out]; first | rfl | simp), hq.drewN _⟩, rfl, rfl⟩; go_num)
              case measure => simp [intOf]; omega
        · obtain rfl : k = vn := by omega
          rw [← HFI.out]
          have HOW2 := Lib.hid (own_ext HOW.out hq)
          have hxq := hx.trans hq
          have hsz := hxq.size
          obtain ⟨fi, hfi⟩ : ∃ fi, f i = fi := ⟨_, rfl⟩
          rw [hfi]
          have HFJ := Lib.hid hfi
          clear hfi
          clear HFI HOW HONE HPL hry ryr
          go_wp2_with (at_builtin; refine wpList_app rowU64 rfl _ _ rfl w1.heap.size _ _ _ rfl (HOW2.out.alloc _) (some ⟨wr.heap.size, 0, none⟩) 1 1 [.int .u64 (fi : Nat)] rfl (src_at rfl (by simp)) (by omega) (by first | (simp; done) | (simp; omega)) ?_; intro v' w5 hown5 hgrow5 _)
          have hx5 : Ext w1 w5 := (hxq.alloc _).grown hgrow5 (fun j e => own_from HOW2.out j e)
          go_roundw
          case rel =>
            have ho5 : w5.ownsRow w1.heap.size 26 1 v' (i + 1) ((Weight.listOf (i + 1) f).map (Value.int .u64)) := by rw [Delta.listOf_snoc, List.map_append, HFJ.out]; exact hown5
            first | exact ⟨i + 1, by omega, by go_num, ho5, hx5⟩ | (refine ⟨_, _, _, _, ⟨i + 1, by omega, ?_, ho5, hx5⟩, rfl, rfl, rfl, rfl⟩; go_num)
          case measure => simp [intOf]; omega
    · obtain rfl : i = n := by omega
      go_wp2
      go_ret
      refine ⟨⟨_, rfl, ?_⟩, kr⟩
      unfold Delta.sumV
      rw [HNN.out, HFD.out]
      refine isInts_own HOW.out (by omega) (fun x hx => ?_)
      rw [← HFD.out, ← HNN.out] at hx
      exact Delta.sumV_wf HOV.out HV8.out x hx
end Go.Proofs.Ytjhhfininnlkfaa
