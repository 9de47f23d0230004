/- The contracts of layer 12 (vote): New, own, how, May, Put, Same. -/
import Derived.Test.YtjhhfininnlkfaaLat
import Derived.Deep.Cut
import Derived.Deep.RegionHeld3
namespace Go.Proofs.Ytjhhfininnlkfaa
open Go.RowKit Go.WideShapes Go.ChangeShapes
set_option linter.unusedVariables false
set_option linter.unusedSimpArgs false









theorem Lat.at33 {x : Lat} (h : x.Ok) : x.cells[33]? = some (.int .u64 x.epoch) := by
  unfold Lat.cells
  rw [List.getElem?_append_right (by simp [rootC_len h.1])]
  simp [rootC_len h.1]
/-- Votes' elements, as they lie. -/
structure VL (w : World) (A : Option Addr) (n c : Nat) (LS : List Lat) : Prop where
  row : WRow w 34 A n c (LS.map Lat.cells)
  ok : ∀ x ∈ LS, x.Ok
  bytes : n * 48 ≤ 140737488355328
namespace VL
variable {w w' : World} {A : Option Addr} {n c : Nat} {LS : List Lat}
theorem ext (h : VL w A n c LS) (hx : Ext w w') : VL w' A n c LS := ⟨h.row.ext hx, h.ok, h.bytes⟩
theorem len (h : VL w A n c LS) : LS.length = n := by have := h.row.len; simpa using this
theorem at' (h : VL w A n c LS) {i : Nat} (hi : i < n) : ∃ b off, A = some ⟨b, off, none⟩ ∧ w.rangeAt b (off + i * 34) (LS.getD i Lat.none).cells ∧ (LS.getD i Lat.none).Ok := by
  have hl := h.len
  obtain ⟨b, off, e, hc⟩ := h.row.cells (by omega)
  refine ⟨b, off, e, ?_, h.ok _ (by simp [List.getD, show i < LS.length by omega])⟩
  have := hc i hi
  simpa [List.getD, show i < LS.length by omega] using this
end VL
/-- How a vote stands to the one that there is. -/
def howV (x : Lat) (out : Bool) (r : List Int) (e : Nat) : Int := if out then 3 else if !x.has || decide (x.epoch < e) then 0 else if decide (e < x.epoch) || decide (x.root = r) then 1 else 2
set_option maxHeartbeats 2000000 in
theorem how_any (A : Option Addr) (n c : Nat) (out : Nat) (ho : out < 18446744073709551616) (LS : List Lat) (val : Nat) (hv : val < n) (h64 : val < 64) (r : List Int) (hr0 : RootOk r) (e : Nat) (he : e < 18446744073709551616) (w : World) (h : VL w A n c LS) :
    Calls Try.prog 28 #[.agg #[.slice A n c, .int .u64 out], .int .i64 val, .agg (rootC r).toArray, .int .u64 e] w fun k w' => k = .returned (.int .i64 (howV (LS.getD val Lat.none) (out.testBit val) r e)) ∧ Ext w w' := by
  obtain ⟨b, off, rfl, hr, hok⟩ := h.at' hv
  generalize LS.getD val Lat.none = x at *
  have hi34 : (Try.prog.info? 40).map (·.size) = some x.cells.length := by rw [Lat.len hok]; kernel_rfl
  have hroom := h.row.room
  clear h
  have HB := Lib.hid (fun W => bit_any (val : Int) (by omega) (by omega) W)
  rw [Stake.bitV_nat h64] at HB
  have ha := bits_and_u64_nat out (2 ^ val) ho (by have := Nat.pow_lt_pow_right (a := 2) (by omega) h64; omega)
  have hz := Stake.and_bit out val
  generalize hX : 2 ^ val = X at *
  generalize hY : out &&& X = Y at *
  have g1 : (val : Int) < n := by omega
  go_enter Try.func28, Try.ntmps28
  go_wp2_with (first | (refine wpList_load_mid rfl 40 _ rfl _ _ rfl x.cells _ (rangeAt_ext hr ((by repeat (first | assumption | exact Ext.refl _ | refine Ext.alloc ?_ _ | refine Ext.drew ?_ | refine Ext.drewN ?_ _ | refine Ext.setCell ?_ (by first | (simp; done) | omega | (simp; omega)) _ | refine Ext.trans (by assumption) ?_)))) Try.underlying40 rfl hi34 ?_) | (refine wpList_store_mid rfl 40 _ _ rfl _ 0 x.cells.toArray rfl rfl (there_at (by simp) _ (by rw [List.size_toArray, Lat.len hok]; decide)) (by rw [List.size_toArray]; exact hi34) (all_oneCell_toArray (Lat.one x)) ?_; rw [List.toList_toArray, setCells_at (by simp) (by rw [Lat.len hok]; rfl)]))
  have R3 := range_at (w := (w.alloc (.cells #[.slice (some ⟨b, off, none⟩) n c, .int .u64 out] 28)).alloc (.cells (rootC r).toArray 38)) (B := w.heap.size + 1 + 1) x.cells 40 (by simp)
  have p1 : (((w.alloc (.cells #[.slice (some ⟨b, off, none⟩) n c, .int .u64 out] 28)).alloc (.cells (rootC r).toArray 38)).alloc (.cells x.cells.toArray 40)).cell? ⟨w.heap.size, 1, none⟩ = some (.int .u64 out) := by simp (maxDischargeDepth := 7) [go_sem]
  have R2 := rangeAt_ext (range_at (w := w.alloc (.cells #[.slice (some ⟨b, off, none⟩) n c, .int .u64 out] 28)) (B := w.heap.size + 1) (rootC r) 38 (by simp)) ((Ext.refl _).alloc (.cells x.cells.toArray 40))
  have k3 : Ext w (((w.alloc (.cells #[.slice (some ⟨b, off, none⟩) n c, .int .u64 out] 28)).alloc (.cells (rootC r).toArray 38)).alloc (.cells x.cells.toArray 40)) := (by repeat (first | assumption | exact Ext.refl _ | refine Ext.alloc ?_ _ | refine Ext.drew ?_ | refine Ext.drewN ?_ _ | refine Ext.setCell ?_ (by first | (simp; done) | omega | (simp; omega)) _ | refine Ext.trans (by assumption) ?_))
  generalize (((w.alloc (.cells #[.slice (some ⟨b, off, none⟩) n c, .int .u64 out] 28)).alloc (.cells (rootC r).toArray 38)).alloc (.cells x.cells.toArray 40)) = w3 at R3 p1 R2 k3 ⊢
  have d0 := R3 0 (.bool x.has) rfl
  have d33 := R3 33 (.int .u64 x.epoch) (Lat.at33 hok)
  have DR := rangeAt_part R3 (k := 1) rfl
  simp only [Nat.zero_add] at d0 d33 DR
  clear R3 hr
  have hi32 : (Try.prog.info? 38).map (·.size) = some (rootC x.root).length := by rw [rootC_len hok.1]; kernel_rfl
  have hi32' : (Try.prog.info? 38).map (·.size) = some (rootC r).length := by rw [rootC_len hr0]; kernel_rfl
  cases hb : out.testBit val with
  | true =>
    have gy : ((Y : Int) == 0) = false := by
      have : Y ≠ 0 := fun e => by rw [hz.1 e] at hb; cases hb
      simp; omega
    have HR : Hid (howV x true r e = 3) := by show howV x true r e = 3; rfl
    clear hz
    go_quiet ((go_at_call 29; refine Calls.quiet_of_same (HB.out _)))
    go_wp2
    go_ret
    exact ⟨by first | (rw [HR.out]; rfl) | (rw [hb, HR.out]; rfl), k3.drewN _⟩
  | false =>
    have gy : ((Y : Int) == 0) = true := by rw [hz.2 hb]; rfl
    clear hz
    cases hh : x.has with
    | false =>
      have HR : Hid (howV x false r e = 0) := by show howV x false r e = 0; unfold howV; simp [hh]
      rw [hh] at d0
      go_quiet ((go_at_call 29; refine Calls.quiet_of_same (HB.out _)))
      go_wp2
      go_ret
      exact ⟨by first | (rw [HR.out]; rfl) | (rw [hb, HR.out]; rfl), k3.drewN _⟩
    | true =>
      rw [hh] at d0
      rcases Nat.lt_trichotomy x.epoch e with hlt | heq | hgt
      · have HR : Hid (howV x false r e = 0) := by show howV x false r e = 0; unfold howV; simp [hh, hlt]
        have g2 : (x.epoch : Int) < e := by omega
        go_quiet ((go_at_call 29; refine Calls.quiet_of_same (HB.out _)))
        go_wp2
        go_ret
        exact ⟨by first | (rw [HR.out]; rfl) | (rw [hb, HR.out]; rfl), k3.drewN _⟩
      · subst heq
        have g2 : ¬ (x.epoch : Int) < x.epoch := by omega
        by_cases hre : x.root = r
        · subst hre
          have HR : Hid (howV x false x.root x.epoch = 1) := by show howV x false x.root x.epoch = 1; unfold howV; simp [hh]
          have hq := root_eql hok.1 hok.1 (b := true) (by simp)
          go_quiet ((go_at_call 29; refine Calls.quiet_of_same (HB.out _)))
          go_upto_region 99 with (first | (refine wp_load_mid 38 _ rfl _ _ rfl (rootC x.root) _ (rangeAt_ext DR ((by repeat (first | assumption | exact Ext.refl _ | refine Ext.alloc ?_ _ | refine Ext.drew ?_ | refine Ext.drewN ?_ _ | refine Ext.setCell ?_ (by first | (simp; done) | omega | (simp; omega)) _ | refine Ext.trans (by assumption) ?_)))) Try.underlying38 rfl hi32 ?_; (try simp only [Act.put, List.setIfInBounds_toArray, List.set_cons_zero, List.set_cons_succ])) | (refine wp_load_mid 38 _ rfl _ _ rfl (rootC _) _ (rangeAt_ext R2 ((by repeat (first | assumption | exact Ext.refl _ | refine Ext.alloc ?_ _ | refine Ext.drew ?_ | refine Ext.drewN ?_ _ | refine Ext.setCell ?_ (by first | (simp; done) | omega | (simp; omega)) _ | refine Ext.trans (by assumption) ?_)))) Try.underlying38 rfl hi32' ?_; (try simp only [Act.put, List.setIfInBounds_toArray, List.set_cons_zero, List.set_cons_succ])))
          go_ret
          exact ⟨by first | (rw [HR.out]; rfl) | (rw [hb, HR.out]; rfl), k3.drewN _⟩
        · have HR : Hid (howV x false r x.epoch = 2) := by show howV x false r x.epoch = 2; unfold howV; simp [hh, hre]
          have hq := root_eql hok.1 hr0 (b := false) (by simp [hre])
          go_quiet ((go_at_call 29; refine Calls.quiet_of_same (HB.out _)))
          go_upto_region 99 with (first | (refine wp_load_mid 38 _ rfl _ _ rfl (rootC x.root) _ (rangeAt_ext DR ((by repeat (first | assumption | exact Ext.refl _ | refine Ext.alloc ?_ _ | refine Ext.drew ?_ | refine Ext.drewN ?_ _ | refine Ext.setCell ?_ (by first | (simp; done) | omega | (simp; omega)) _ | refine Ext.trans (by assumption) ?_)))) Try.underlying38 rfl hi32 ?_; (try simp only [Act.put, List.setIfInBounds_toArray, List.set_cons_zero, List.set_cons_succ])) | (refine wp_load_mid 38 _ rfl _ _ rfl (rootC _) _ (rangeAt_ext R2 ((by repeat (first | assumption | exact Ext.refl _ | refine Ext.alloc ?_ _ | refine Ext.drew ?_ | refine Ext.drewN ?_ _ | refine Ext.setCell ?_ (by first | (simp; done) | omega | (simp; omega)) _ | refine Ext.trans (by assumption) ?_)))) Try.underlying38 rfl hi32' ?_; (try simp only [Act.put, List.setIfInBounds_toArray, List.set_cons_zero, List.set_cons_succ])))
          go_ret
          exact ⟨by first | (rw [HR.out]; rfl) | (rw [hb, HR.out]; rfl), k3.drewN _⟩
      · have HR : Hid (howV x false r e = 1) := by
          show howV x false r e = 1; unfold howV; simp [hh, hgt]; omega
        have g2 : ¬ (x.epoch : Int) < e := by omega
        have g3 : (e : Int) < x.epoch := by omega
        go_quiet ((go_at_call 29; refine Calls.quiet_of_same (HB.out _)))
        go_wp2
        go_ret
        exact ⟨by first | (rw [HR.out]; rfl) | (rw [hb, HR.out]; rfl), k3.drewN _⟩

def flatL (LS : List Lat) : List Value := (LS.map Lat.cells).flatten
theorem rowLats : RowT Try.prog 25 40 34 48 := RowT.mk' (z := .agg Lat.none.cells.toArray) rfl (by kernel_rfl) rfl (by omega) (by omega)
/-- What the call owns are such votes. -/
theorem VL.own {w : World} {base n : Nat} {v : Value} {LS : List Lat} (h : w.ownsRow base 40 34 v n (flatL LS)) (hn : n * 48 ≤ 140737488355328) (hl : LS.length = n) (hok : ∀ x ∈ LS, x.Ok) : ∃ A c, v = .slice A n c ∧ VL w A n c LS ∧ ∀ ad, A = some ad → base ≤ ad.block := by
  obtain ⟨A, c, e, hr, hf⟩ := wide_own (by omega) h (by omega) (by simpa using hl) (fun x hx => by
    obtain ⟨y, hy, rfl⟩ := List.mem_map.1 hx
    exact ⟨Lat.len (hok y hy), Lat.one y⟩)
  exact ⟨A, c, e, ⟨hr, hok, hn⟩, hf⟩
set_option maxHeartbeats 1000000 in
theorem clone_any (A : Option Addr) (n c : Nat) (LS : List Lat) (w : World) (h : VL w A n c LS) :
    Calls Try.prog 42 #[.slice A n c] w fun e w' => (∃ v, e = .returned v ∧ w'.ownsRow w.heap.size 40 34 v n (flatL LS)) ∧ Ext w w' := by
  cases A with
  | none =>
    have hc := h.row.nil rfl
    have hn : n = 0 := by have := h.row.cap; omega
    subst hc; subst hn
    have hl : LS = [] := List.eq_nil_of_length_eq_zero h.len
    subst hl
    have hnil := fun w => Lib.run_eql_slice_nil (P := Try.prog) w 25 40 none 0 0 0 0 Try.underlying25
    go_enter Try.func42, Try.ntmps42
    go_wp2
    go_ret
    exact ⟨⟨_, rfl, World.ownsRow_nil _ _ _ _⟩, Ext.refl _⟩
  | some a =>
    have hnil := fun w => Lib.run_eql_slice_nil (P := Try.prog) w 25 40 (some a) n c 0 0 Try.underlying25
    have hb := h.bytes
    have HS := Lib.hid (wide_src (by omega) h.row)
    clear h
    go_enter Try.func42, Try.ntmps42
    go_wp2_with (at_builtin; refine wpList_app rowLats rfl _ _ rfl w.heap.size _ 0 [] rfl (World.ownsRow_made w #[] 0 (Nat.le_refl _) (by unfold maxLen; omega) rfl) (some a) n c (flatL LS) rfl (HS.out.ext ((Ext.refl _).alloc _)) (by omega) (by simp) ?_)
    intro v' w1 hown hgrow _
    go_wp2
    go_ret
    exact ⟨⟨_, rfl, hown⟩, ((Ext.refl w).alloc _).grown hgrow (fun k hk => by cases hk; exact Nat.le_refl _)⟩
theorem own_any (A : Option Addr) (n c : Nat) (out : Nat) (LS : List Lat) (w : World) (h : VL w A n c LS) :
    Calls Try.prog 26 #[.agg #[.slice A n c, .int .u64 out]] w fun e w' => (∃ A2 c2, e = .returned (.agg #[.slice A2 n c2, .int .u64 out]) ∧ w'.ownsRow w.heap.size 40 34 (.slice A2 n c2) n (flatL LS)) ∧ Ext w w' := by
  have HC := Lib.hid (fun W (hx : Ext w W) => clone_any A n c LS W (h.ext hx))
  clear h
  go_enter Try.func26, Try.ntmps26
  go_wp2_with fail
  refine (HC.out _ (((Ext.refl _).alloc _).alloc _)).mono ?_
  rintro e w1 ⟨⟨v, rfl, hown⟩, hx⟩
  obtain ⟨A2, c2, rfl⟩ := own_form' hown
  have e1 := (Ext.trans (((Ext.refl w).alloc _).alloc _) hx)
  obtain ⟨hc1, hf1, hu1, hs1⟩ := hx.facts
  simp at hs1 hown
  go_wp2
  refine bodyPost_ret (v := .agg #[.slice A2 n c2, .int .u64 out]) (by simp (maxDischargeDepth := 7) [results, Try.results26, go_sem, hc1, hu1]) rfl ⟨⟨A2, c2, rfl, ?_⟩, ?_⟩
  · exact own_base (own_setCell (own_setCell (own_setCell hown (by show w.heap.size < _; omega) _) (by show w.heap.size + 1 < _; omega) _) (by show w.heap.size + 1 < _; omega) _) (by omega)
  · exact ((e1.setCell (by simp) _).setCell (by simp) _).setCell (by simp) _

def newVB (k : Int) : Bool := decide (1 ≤ k ∧ k ≤ 8)
theorem made_flat {z : List Value} {size : Nat} (hs : 0 < size) (hz : z.length = size) (n : Nat) : (madeCells z.toArray (n * size)).toList = (List.replicate n z).flatten := by
  have hw : ∀ x ∈ List.replicate n z, x.length = size := fun x hx => by rw [(List.mem_replicate.1 hx).2]; exact hz
  apply List.ext_getElem?
  intro j
  rw [flat_get hs hw]
  by_cases hj : j < n * size
  · have hq : j / size < n := Nat.div_lt_of_lt_mul (by rwa [Nat.mul_comm] at hj)
    have hm : j % size < z.length := by rw [hz]; exact Nat.mod_lt _ hs
    simp [madeCells, hj, hq, hz]
    rw [List.getElem?_eq_getElem hm]
    rfl
  · have hq : ¬ j / size < n := by
      intro h
      exact hj ((Nat.div_lt_iff_lt_mul hs).1 h)
    simp [madeCells, hj, hq]
theorem VL.nil_mk (w : World) : VL w none 0 0 [] := ⟨WRow.nil_mk w 34, by simp, by omega⟩
/-- Two votes' slices that lie ahead of a block are as they were behind stores into it. -/
theorem VL.setCell {w : World} {A : Option Addr} {n c : Nat} {LS : List Lat} (h : VL w A n c LS) {p : Addr} (hne : ∀ ad, A = some ad → ad.block ≠ p.block) (u : Value) : VL (w.setCell p u) A n c LS :=
  ⟨⟨h.row.len, h.row.cap, h.row.room, h.row.wide, h.row.nil, fun hn => by
    obtain ⟨b, off, e, hc⟩ := h.row.cells hn
    refine ⟨b, off, e, fun i hi j v hv => ?_⟩
    rw [World.cell?_of_block (w := w) (Below.heap_setCell w p u b (hne _ e))]
    exact hc i hi j v hv⟩, h.ok, h.bytes⟩
theorem VL.made {w : World} {B n : Nat} {cs : Array Value} {LS : List Lat} (hB : B = w.heap.size) (hz : cs.size = n * 34) (hf : cs.toList = flatL LS) (hn : n ≤ 1000) (hl : LS.length = n) (hok : ∀ x ∈ LS, x.Ok) : VL (w.alloc (.cells cs 40)) (some ⟨B, 0, none⟩) n n LS := by
  subst hB
  have ho : (w.alloc (.cells cs 40)).ownsRow w.heap.size 40 34 (.slice (some ⟨w.heap.size, 0, none⟩) n n) n (flatL LS) :=
    ⟨by rw [← hf]; simpa using hz, .inr ⟨_, n, cs, rfl, Nat.le_refl _, heap_alloc_new w _, Nat.le_refl _, by unfold maxLen; omega, hz, by rw [hf, List.take_of_length_le (by rw [← hf]; simp [hz])]⟩⟩
  obtain ⟨A, c, e, h, _⟩ := VL.own ho (by omega) hl hok
  obtain ⟨rfl, rfl⟩ : some (⟨w.heap.size, 0, none⟩ : Addr) = A ∧ n = c := by simpa using e
  exact h
set_option maxHeartbeats 1000000 in
theorem new_any (k : Int) (w : World) :
    Calls Try.prog 18 #[.int .i64 k] w fun e w' => (∃ A n c, e = .returned (.tuple #[.agg #[.slice A n c, .int .u64 0], .bool (newVB k)]) ∧ VL w' A n c (if newVB k then List.replicate k.toNat Lat.none else [])) ∧ Ext w w' := by
  by_cases h1 : k < 1
  · have hb : newVB k = false := by unfold newVB; rw [decide_eq_false]; omega
    rw [hb]
    go_enter Try.func18, Try.ntmps18
    go_wp2
    refine bodyPost_ret (v := .tuple #[.agg #[.slice none 0 0, .int .u64 0], .bool false]) (by simp (maxDischargeDepth := 7) [results, Try.results18, go_sem]) rfl ⟨⟨none, 0, 0, rfl, VL.nil_mk _⟩, (by repeat (first | assumption | exact Ext.refl _ | refine Ext.alloc ?_ _ | refine Ext.drew ?_ | refine Ext.drewN ?_ _ | refine Ext.setCell ?_ (by first | (simp; done) | omega | (simp; omega)) _ | refine Ext.trans (by assumption) ?_))⟩
  · by_cases h8 : 8 < k
    · have hb : newVB k = false := by unfold newVB; rw [decide_eq_false]; omega
      rw [hb]
      go_enter Try.func18, Try.ntmps18
      go_wp2
      refine bodyPost_ret (v := .tuple #[.agg #[.slice none 0 0, .int .u64 0], .bool false]) (by simp (maxDischargeDepth := 7) [results, Try.results18, go_sem]) rfl ⟨⟨none, 0, 0, rfl, VL.nil_mk _⟩, (by repeat (first | assumption | exact Ext.refl _ | refine Ext.alloc ?_ _ | refine Ext.drew ?_ | refine Ext.drewN ?_ _ | refine Ext.setCell ?_ (by first | (simp; done) | omega | (simp; omega)) _ | refine Ext.trans (by assumption) ?_))⟩
    · have hb : newVB k = true := by unfold newVB; rw [decide_eq_true]; omega
      rw [hb]
      obtain ⟨n, rfl⟩ := Int.eq_ofNat_of_zero_le (show 0 ≤ k by omega)
      obtain ⟨i0, hi, hz0, hz1, hz2⟩ := info_parts (show (Try.prog.info? 40).map (fun i => (i.zero, i.size, i.bytes)) = some (some (.agg Lat.none.cells.toArray), 34, 48) by kernel_rfl)
      have hmk := fun W => run_makeSlice (P := Try.prog) W 25 40 i0 _ Try.underlying25 hi hz0 .i64 .i64 (n : Int) (n : Int) (by omega) (Int.le_refl _) (by rw [hz1]; omega) (by rw [hz2]; omega) (by omega)
      rw [hz1] at hmk
      simp only [Int.toNat_natCast, Value.cells] at hmk
      obtain ⟨cs, hcs⟩ : ∃ cs, madeCells Lat.none.cells.toArray (n * 34) = cs := ⟨_, rfl⟩
      simp only [hcs] at hmk
      have hfl : cs.toList = flatL (List.replicate n Lat.none) := by
        rw [← hcs]
        unfold flatL
        rw [List.map_replicate]
        exact made_flat (by omega) (Lat.len Lat.none_ok) n
      have HF := Lib.hid hfl
      have hsz : cs.size = n * 34 := by rw [← hcs]; exact size_madeCells _ _
      have HZ := Lib.hid hsz
      clear hfl hsz hcs hi hz0 hz1 hz2
      go_enter Try.func18, Try.ntmps18
      go_wp2
      refine bodyPost_ret (v := .tuple #[.agg #[.slice (some ⟨w.heap.size + 1, 0, none⟩) n n, .int .u64 0], .bool true]) (by simp (maxDischargeDepth := 7) [results, Try.results18, go_sem]) rfl ⟨⟨_, _, _, rfl, ?_⟩, (by repeat (first | assumption | exact Ext.refl _ | refine Ext.alloc ?_ _ | refine Ext.drew ?_ | refine Ext.drewN ?_ _ | refine Ext.setCell ?_ (by first | (simp; done) | omega | (simp; omega)) _ | refine Ext.trans (by assumption) ?_))⟩
      exact VL.made (by simp) HZ.out HF.out (by omega) (by simp) (fun x hx => by rw [(List.mem_replicate.1 hx).2]; exact Lat.none_ok)

def badAt (LS : List Lat) (out i : Nat) : Bool := (!(LS.getD i Lat.none).has || out.testBit i) && !((LS.getD i Lat.none).eqb Lat.none)
def mayV (LS : List Lat) (out : Nat) : Bool := decide (0 < LS.length) && decide (LS.length ≤ 8) && decide (out < 2 ^ LS.length) && (List.range LS.length).all (fun i => !badAt LS out i)
theorem mayV_iff {LS : List Lat} {out : Nat} : mayV LS out = true ↔ 0 < LS.length ∧ LS.length ≤ 8 ∧ out < 2 ^ LS.length ∧ ∀ i, i < LS.length → badAt LS out i = false := by
  unfold mayV
  simp [and_assoc]
set_option maxHeartbeats 4000000 in
theorem vmay_any (A : Option Addr) (n c : Nat) (out : Nat) (ho : out < 18446744073709551616) (LS : List Lat) (w : World) (h : VL w A n c LS) :
    Calls Try.prog 27 #[.agg #[.slice A n c, .int .u64 out]] w fun e w' => e = .returned (.bool (mayV LS out)) ∧ Ext w w' := by
  have hlen := h.len
  by_cases h0 : n = 0
  · have e : mayV LS out = false := by unfold mayV; rw [hlen, h0]; rfl
    rw [e]
    subst h0
    go_enter Try.func27, Try.ntmps27
    go_wp2
    go_quiet (fail)
    go_wp2
    go_ret
    exact ⟨rfl, by first | exact (Ext.refl w).alloc _ | exact ((Ext.refl w).alloc _).drewN _⟩
  · by_cases h8 : 8 < n
    · have e : mayV LS out = false := by unfold mayV; rw [hlen, decide_eq_false (show ¬ n ≤ 8 by omega)]; simp
      rw [e]
      have g0 : ((n : Int) == 0) = false := by simp; omega
      have g8 : (8 : Int) < n := by omega
      go_enter Try.func27, Try.ntmps27
      go_wp2
      go_quiet (fail)
      go_wp2
      go_ret
      exact ⟨rfl, by first | exact (Ext.refl w).alloc _ | exact ((Ext.refl w).alloc _).drewN _⟩
    · have g0 : ((n : Int) == 0) = false := by simp; omega
      have g8 : ¬ (8 : Int) < n := by omega
      have HB := Lib.hid (fun (k : Nat) (hk : k < 64) W => bit_any (k : Int) (by omega) (by omega) W)
      have hb := HB.out n (by omega)
      rw [Stake.bitV_nat (by omega)] at hb
      have HBn := Lib.hid hb
      clear hb
      by_cases hout : out < 2 ^ n
      · have g2 : ¬ ((2 ^ n : Nat) : Int) ≤ (out : Int) := by omega
        have hn2 : (2 : Nat) ^ n ≤ 2 ^ 8 := Nat.pow_le_pow_right (by omega) (by omega)
        generalize hX : 2 ^ n = X at HBn g2 hn2
        have HX := Lib.hid hX
        have HO := Lib.hid hout
        have HV := Lib.hid (fun W (k : Ext w W) => h.ext k)
        clear h hX hout
        go_enter Try.func27, Try.ntmps27
        go_wp2
        go_quiet ((go_at_call 29; refine Calls.quiet_of_same (HBn.out _)))
        go_wp2
        obtain ⟨w1, hw1⟩ : ∃ w1, (w.alloc (.cells #[.slice A n c, .int .u64 out] 28)).drewN nq = w1 := ⟨_, rfl⟩
        have p0 : w1.cell? ⟨w.heap.size, 0, none⟩ = some (.slice A n c) := by rw [← hw1]; exact (((Ext.refl _).drewN nq).cell (by simp))
        have p1 : w1.cell? ⟨w.heap.size, 1, none⟩ = some (.int .u64 out) := by rw [← hw1]; exact (((Ext.refl _).drewN nq).cell (by simp))
        have k1 : Ext w w1 := by rw [← hw1]; exact ((Ext.refl w).alloc _).drewN _
        try rw [hw1]
        clear hw1
        have P0 := Lib.hid p0
        have P1 := Lib.hid p1
        clear p0 p1
        go_loopw [2, 3, 4, 27] (fun _ _ _ i wr => ∃ k : Nat, k ≤ n ∧ i = .int .i64 k ∧ (∀ j, j < k → badAt LS out j = false) ∧ Ext w1 wr) (fun _ _ _ i _ => n - (intOf i).toNat)
        case atStart => exact ⟨0, Nat.zero_le _, rfl, (fun j hj => absurd hj (Nat.not_lt_zero j)), Ext.refl _⟩
        case round =>
          obtain ⟨k, hk, rfl, hno, hx⟩ := hrel
          have HNO := Lib.hid hno
          clear hno
          have p0 := hx.cell P0.out
          have p1 := hx.cell P1.out
          by_cases hlt : k < n
          · have kr := k1.trans hx
            obtain ⟨b, off, rfl, hr, hok⟩ := (HV.out wr kr).at' hlt
            have hbad : Hid (badAt LS out k = ((!(LS.getD k Lat.none).has || out.testBit k) && !((LS.getD k Lat.none).eqb Lat.none))) := by show badAt LS out k = _; rfl
            generalize LS.getD k Lat.none = x at hr hok hbad
            have hi34 : (Try.prog.info? 40).map (·.size) = some x.cells.length := by rw [Lat.len hok]; kernel_rfl
            have g1 : (k : Int) < n := by omega
            have hbit := HB.out k (by omega)
            rw [Stake.bitV_nat (by omega)] at hbit
            have ha := bits_and_u64_nat out (2 ^ k) ho (by have := Nat.pow_lt_pow_right (a := 2) (by omega) (show k < 63 by omega); omega)
            have hz := Stake.and_bit out k
            generalize 2 ^ k = Y at hbit ha hz
            generalize out &&& Y = Z at ha hz
            have HBk := Lib.hid hbit
            clear hbit
            have hu34 := Try.underlying40
            go_wp2_with (first | (refine wpList_load_mid rfl 40 _ rfl _ _ rfl x.cells _ (rangeAt_ext hr ((by repeat (first | assumption | exact Ext.refl _ | refine Ext.alloc ?_ _ | refine Ext.drew ?_ | refine Ext.drewN ?_ _ | refine Ext.setCell ?_ (by first | (simp; done) | omega | (simp; omega)) _ | refine Ext.trans (by assumption) ?_)))) Try.underlying40 rfl hi34 ?_) | (refine wpList_store_mid rfl 40 _ _ rfl _ 0 x.cells.toArray rfl rfl (there_at (by simp) _ (by rw [List.size_toArray, Lat.len hok]; decide)) (by rw [List.size_toArray]; exact hi34) (all_oneCell_toArray (Lat.one x)) ?_; rw [List.toList_toArray, setCells_at (by simp) (by rw [Lat.len hok]; rfl)]))
            have R3 := range_at (w := wr) (B := wr.heap.size) x.cells 40 rfl
            have p0' := (Ext.refl wr |>.alloc (.cells x.cells.toArray 40)).cell p0
            have p1' := (Ext.refl wr |>.alloc (.cells x.cells.toArray 40)).cell p1
            have k3 : Ext w1 (wr.alloc (.cells x.cells.toArray 40)) := hx.alloc _
            generalize hBx : wr.heap.size = X at R3 ⊢
            generalize (wr.alloc (.cells x.cells.toArray 40)) = w3 at R3 p0' p1' k3 ⊢
            have d0 := R3 0 (.bool x.has) rfl
            simp only [Nat.zero_add] at d0
            clear hr p0 p1
            have hmf0 : badAt LS out k = true → mayV LS out = false := fun hb => by
              cases hm : mayV LS out with
              | false => rfl
              | true =>
                have := (mayV_iff.1 hm).2.2.2 k (by omega)
                rw [this] at hb; cases hb
            obtain ⟨bh, hh⟩ : ∃ bh, x.has = bh := ⟨_, rfl⟩
            rw [hh] at d0
            have hbad' := hbad.out
            rw [hh] at hbad'
            clear hbad
            cases bh with
            | false =>
              clear ha hz
              cases he : x.eqb Lat.none with
              | true =>
                have hq : ∀ W, (binOp .neq 40 (.agg x.cells.toArray) (.agg #[.bool false, .int .u8 0, .int .u8 0, .int .u8 0, .int .u8 0, .int .u8 0, .int .u8 0, .int .u8 0, .int .u8 0, .int .u8 0, .int .u8 0, .int .u8 0, .int .u8 0, .int .u8 0, .int .u8 0, .int .u8 0, .int .u8 0, .int .u8 0, .int .u8 0, .int .u8 0, .int .u8 0, .int .u8 0, .int .u8 0, .int .u8 0, .int .u8 0, .int .u8 0, .int .u8 0, .int .u8 0, .int .u8 0, .int .u8 0, .int .u8 0, .int .u8 0, .int .u8 0, .int .u64 0])).run Try.prog W = .ok (.bool false) W := fun W => Lat.neq hok Lat.none_ok (b := true) (by simp [Lat.eqb_iff.1 he]) W
                have HB0 : Hid (badAt LS out k = false) := by show badAt LS out k = false; rw [hbad', he]; simp
                clear hbad' hmf0 he hh
                try simp only [Act.put, List.setIfInBounds_toArray, List.set_cons_zero, List.set_cons_succ]
                refine wp_region_quiet_lit (by kernel_rfl) (by kernel_rfl) ?_
                repeat (first | go_big_quiet_skip | (go_big_quiet_want; first | ((refine quiet_load_mid 40 _ rfl X 0 rfl x.cells _ (fun W ⟨nn, hn⟩ => hn ▸ rangeAt_ext R3 ((Ext.refl _).drewN nn)) Try.underlying40 rfl hi34 ?_); (try simp only [Act.put, List.setIfInBounds_toArray, List.set_cons_zero, List.set_cons_succ]); go_big_quiet_on) | (go_big_quiet_op; first | go_big_quiet_on | go_big_quiet_call ((go_at_call 29; refine Calls.quiet_of_same (HBk.out _))))))
                refine wpQuiet_nil ?_
                intro _ hw'
                obtain ⟨nq', hw''⟩ := hw'
                subst hw''
                go_wp2
                go_roundw
                case rel =>
                  have hno' : ∀ j, j < k + 1 → badAt LS out j = false := fun j hj => by
                    rcases Nat.lt_or_eq_of_le (Nat.lt_succ_iff.1 hj) with h | rfl
                    · exact HNO.out j h
                    · exact HB0.out
                  first | exact ⟨k + 1, by omega, by go_num, hno', k3.drewN _⟩ | (refine ⟨_, _, _, _, ⟨k + 1, by omega, ?_, hno', k3.drewN _⟩, rfl, rfl, rfl, rfl⟩; go_num)
                case measure => simp [intOf]; omega
              | false =>
                have hne : ¬ x = Lat.none := fun e => by rw [Lat.eqb_iff.2 e] at he; cases he
                have hq : ∀ W, (binOp .neq 40 (.agg x.cells.toArray) (.agg #[.bool false, .int .u8 0, .int .u8 0, .int .u8 0, .int .u8 0, .int .u8 0, .int .u8 0, .int .u8 0, .int .u8 0, .int .u8 0, .int .u8 0, .int .u8 0, .int .u8 0, .int .u8 0, .int .u8 0, .int .u8 0, .int .u8 0, .int .u8 0, .int .u8 0, .int .u8 0, .int .u8 0, .int .u8 0, .int .u8 0, .int .u8 0, .int .u8 0, .int .u8 0, .int .u8 0, .int .u8 0, .int .u8 0, .int .u8 0, .int .u8 0, .int .u8 0, .int .u8 0, .int .u64 0])).run Try.prog W = .ok (.bool true) W := fun W => Lat.neq hok Lat.none_ok (b := false) (by simp [hne]) W
                have hmf : Hid (mayV LS out = false) := hmf0 (by rw [hbad', he]; simp)
                clear hbad' hmf0 he hh hne
                try simp only [Act.put, List.setIfInBounds_toArray, List.set_cons_zero, List.set_cons_succ]
                refine wp_region_quiet_lit (by kernel_rfl) (by kernel_rfl) ?_
                repeat (first | go_big_quiet_skip | (go_big_quiet_want; first | ((refine quiet_load_mid 40 _ rfl X 0 rfl x.cells _ (fun W ⟨nn, hn⟩ => hn ▸ rangeAt_ext R3 ((Ext.refl _).drewN nn)) Try.underlying40 rfl hi34 ?_); (try simp only [Act.put, List.setIfInBounds_toArray, List.set_cons_zero, List.set_cons_succ]); go_big_quiet_on) | (go_big_quiet_op; first | go_big_quiet_on | go_big_quiet_call ((go_at_call 29; refine Calls.quiet_of_same (HBk.out _))))))
                refine wpQuiet_nil ?_
                intro _ hw'
                obtain ⟨nq', hw''⟩ := hw'
                subst hw''
                go_wp2
                go_ret
                exact ⟨by rw [hmf.out]; rfl, (k1.trans k3).drewN _⟩
            | true =>
              have hne : ¬ x = Lat.none := fun e => by rw [e] at hh; cases hh
              have hq : ∀ W, (binOp .neq 40 (.agg x.cells.toArray) (.agg #[.bool false, .int .u8 0, .int .u8 0, .int .u8 0, .int .u8 0, .int .u8 0, .int .u8 0, .int .u8 0, .int .u8 0, .int .u8 0, .int .u8 0, .int .u8 0, .int .u8 0, .int .u8 0, .int .u8 0, .int .u8 0, .int .u8 0, .int .u8 0, .int .u8 0, .int .u8 0, .int .u8 0, .int .u8 0, .int .u8 0, .int .u8 0, .int .u8 0, .int .u8 0, .int .u8 0, .int .u8 0, .int .u8 0, .int .u8 0, .int .u8 0, .int .u8 0, .int .u8 0, .int .u64 0])).run Try.prog W = .ok (.bool true) W := fun W => Lat.neq hok Lat.none_ok (b := false) (by simp [hne]) W
              have he : x.eqb Lat.none = false := by
                cases h : x.eqb Lat.none with
                | false => rfl
                | true => exact absurd (Lat.eqb_iff.1 h) hne
              cases hbk : out.testBit k with
              | true =>
                have gz : ((Z : Int) != 0) = true := by
                  have : Z ≠ 0 := fun e => by rw [hz.1 e] at hbk; cases hbk
                  simp; omega
                have hmf : Hid (mayV LS out = false) := hmf0 (by rw [hbad', he, hbk]; simp)
                clear hbad' hmf0 he hh hne hz hbk
                try simp only [Act.put, List.setIfInBounds_toArray, List.set_cons_zero, List.set_cons_succ]
                refine wp_region_quiet_lit (by kernel_rfl) (by kernel_rfl) ?_
                repeat (first | go_big_quiet_skip | (go_big_quiet_want; first | ((refine quiet_load_mid 40 _ rfl X 0 rfl x.cells _ (fun W ⟨nn, hn⟩ => hn ▸ rangeAt_ext R3 ((Ext.refl _).drewN nn)) Try.underlying40 rfl hi34 ?_); (try simp only [Act.put, List.setIfInBounds_toArray, List.set_cons_zero, List.set_cons_succ]); go_big_quiet_on) | (go_big_quiet_op; first | go_big_quiet_on | go_big_quiet_call ((go_at_call 29; refine Calls.quiet_of_same (HBk.out _))))))
                refine wpQuiet_nil ?_
                intro _ hw'
                obtain ⟨nq', hw''⟩ := hw'
                subst hw''
                go_wp2
                go_ret
                exact ⟨by rw [hmf.out]; rfl, (k1.trans k3).drewN _⟩
              | false =>
                have gz : ((Z : Int) != 0) = false := by rw [hz.2 hbk]; rfl
                have HB0 : Hid (badAt LS out k = false) := by show badAt LS out k = false; rw [hbad', he, hbk]; simp
                clear hbad' hmf0 he hh hne hz hbk
                try simp only [Act.put, List.setIfInBounds_toArray, List.set_cons_zero, List.set_cons_succ]
                refine wp_region_quiet_lit (by kernel_rfl) (by kernel_rfl) ?_
                repeat (first | go_big_quiet_skip | (go_big_quiet_want; first | ((refine quiet_load_mid 40 _ rfl X 0 rfl x.cells _ (fun W ⟨nn, hn⟩ => hn ▸ rangeAt_ext R3 ((Ext.refl _).drewN nn)) Try.underlying40 rfl hi34 ?_); (try simp only [Act.put, List.setIfInBounds_toArray, List.set_cons_zero, List.set_cons_succ]); go_big_quiet_on) | (go_big_quiet_op; first | go_big_quiet_on | go_big_quiet_call ((go_at_call 29; refine Calls.quiet_of_same (HBk.out _))))))
                refine wpQuiet_nil ?_
                intro _ hw'
                obtain ⟨nq', hw''⟩ := hw'
                subst hw''
                go_wp2
                go_roundw
                case rel =>
                  have hno' : ∀ j, j < k + 1 → badAt LS out j = false := fun j hj => by
                    rcases Nat.lt_or_eq_of_le (Nat.lt_succ_iff.1 hj) with h | rfl
                    · exact HNO.out j h
                    · exact HB0.out
                  first | exact ⟨k + 1, by omega, by go_num, hno', k3.drewN _⟩ | (refine ⟨_, _, _, _, ⟨k + 1, by omega, ?_, hno', k3.drewN _⟩, rfl, rfl, rfl, rfl⟩; go_num)
                case measure => simp [intOf]; omega
          · have e : k = n := by omega
            subst e
            have hm : Hid (mayV LS out = true) := mayV_iff.2 ⟨by omega, by omega, by rw [hlen]; exact HO.out, fun i hi => HNO.out i (by omega)⟩
            go_wp2
            go_ret
            exact ⟨by rw [hm.out]; rfl, by first | exact k1.trans hx | exact (k1.trans hx).drewN _⟩
      · have e : mayV LS out = false := by unfold mayV; rw [hlen, decide_eq_false hout]; simp
        rw [e]
        have g2 : ((2 ^ n : Nat) : Int) ≤ (out : Int) := by omega
        generalize 2 ^ n = X at HBn g2
        clear h hout e
        go_enter Try.func27, Try.ntmps27
        go_wp2
        go_quiet ((go_at_call 29; refine Calls.quiet_of_same (HBn.out _)))
        go_wp2
        go_ret
        exact ⟨rfl, ((Ext.refl w).alloc _).drewN _⟩
end Go.Proofs.Ytjhhfininnlkfaa
