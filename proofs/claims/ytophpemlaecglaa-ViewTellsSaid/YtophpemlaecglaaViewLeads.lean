/- The contract of view.Leads. -/
import Derived.Test.YtophpemlaecglaaViewLead
import Derived.Test.YtophpemlaecglaaOwnRow
import Derived.Deep.LoopGhost
namespace Go.Proofs.Ytophpemlaecglaa
open Go.RowKit Go.WideShapes Go.ChangeShapes
set_option linter.unusedVariables false
set_option linter.unusedSimpArgs false





namespace View
open Tree
def bl (n : Nat) (o : Nat → Bool) : List Bool := (List.range n).map o
theorem bl_len (n : Nat) (o : Nat → Bool) : (bl n o).length = n := by simp [bl]
theorem bl_get {n p : Nat} (o : Nat → Bool) (h : p < n) : (bl n o)[p]? = some (o p) := by simp [bl, h]
theorem bl_congr {n : Nat} {o p : Nat → Bool} (h : ∀ x, x < n → o x = p x) : bl n o = bl n p := List.map_congr_left (fun x hx => h x (List.mem_range.1 hx))
theorem bl_set {n p : Nat} (o : Nat → Bool) (b : Bool) : (bl n o).set p b = bl n (fun x => if x = p then b else o x) := by
  apply List.ext_getElem (by simp [bl])
  intro i h1 h2
  simp only [bl, List.getElem_set, List.getElem_map, List.getElem_range]
  by_cases e : p = i
  · subst e; simp
  · rw [if_neg e, if_neg (fun h => e h.symm)]
def mark (T : List Node) (D : List Int) (x : Nat) : Bool := D.any (fun y => decide (x ∈ line T y.toNat))
def inL (T : List Node) (c : Int) (x : Nat) : Bool := decide (0 ≤ c) && decide (x ∈ line T c.toNat)
/-- What is marked while one goes up from a leaf, and has come to c. -/
def upM (T : List Node) (D : List Int) (y : Nat) (c : Int) (x : Nat) : Bool := mark T D x || (decide (x ∈ line T y) && !inL T c x)
def leadsV (T : List Node) (j : Nat) (f : Int) : List Bool := if mayV T = true then bl T.length (mark T (leafTo T j f T.length)) else []
theorem mark_snoc (T : List Node) (D : List Int) (y : Nat) (x : Nat) : mark T (D ++ [(y : Int)]) x = (mark T D x || decide (x ∈ line T y)) := by
  unfold mark
  simp
theorem up_start (T : List Node) (D : List Int) (y x : Nat) : upM T D y y x = mark T D x := by
  unfold upM inL
  by_cases h : x ∈ line T y <;> simp [h]
theorem up_end (T : List Node) (D : List Int) (y : Nat) (x : Nat) : upM T D y (-1) x = mark T (D ++ [(y : Int)]) x := by
  rw [mark_snoc]
  unfold upM inL
  simp
theorem up_met {T : List Node} {D : List Int} {y c : Nat} (hc : c ∈ line T y) (h : upM T D y c c = true) (x : Nat) : upM T D y c x = mark T (D ++ [(y : Int)]) x := by
  have hm : mark T D c = true := by
    unfold upM inL at h
    simpa [mem_self] using h
  rw [mark_snoc]
  unfold upM inL
  by_cases hx : x ∈ line T c
  · have : mark T D x = true := by
      unfold mark at hm ⊢
      obtain ⟨z, hz, hzc⟩ := List.any_eq_true.1 hm
      exact List.any_eq_true.2 ⟨z, hz, decide_eq_true (mem_trans hx (of_decide_eq_true hzc))⟩
    simp [this]
  · simp [hx]
theorem up_go {T : List Node} (hm : mayV T = true) {D : List Int} {y c : Nat} (hcl : c < T.length) (hc : c ∈ line T y) (x : Nat) : (if x = c then true else upM T D y c x) = upM T D y (nd T c).par x := by
  by_cases h0 : c = 0
  · subst h0
    rw [par_zero hm]
    unfold upM inL
    rw [show line T ((0 : Nat) : Int).toNat = [0] from line_zero T]
    by_cases e : x = 0
    · subst e; simp [hc]
    · simp [e]
  · obtain ⟨p0, _, hp⟩ := par_pos hm hcl h0
    rw [hp]
    have hu := up_lt T h0
    unfold upM inL
    simp only [Int.toNat_natCast]
    by_cases e : x = c
    · subst e
      have : x ∉ line T (up T x) := fun h => by have := mem_le h; omega
      simp [hc, this]
    · rw [if_neg e]
      have : x ∈ line T c ↔ x ∈ line T (up T c) := by rw [mem_pos h0]; simp [e]
      simp only [this]
      simp
theorem par_in {T : List Node} (hm : mayV T = true) {y c : Nat} (hcl : c < T.length) (hc : c ∈ line T y) : -1 ≤ (nd T c).par ∧ (nd T c).par < c ∧ (0 ≤ (nd T c).par → (nd T c).par.toNat ∈ line T y) := by
  by_cases h0 : c = 0
  · subst h0
    rw [par_zero hm]
    exact ⟨by omega, by omega, fun h => by omega⟩
  · obtain ⟨p0, p1, hp⟩ := par_pos hm hcl h0
    refine ⟨by omega, p1, fun _ => ?_⟩
    rw [hp, Int.toNat_natCast]
    exact mem_trans ((mem_pos h0).2 (.inr (mem_self T _))) hc
end View
structure LeadsR (w2 W : World) (g cap n : Nat) (LA : Option Addr) (m d : Nat) (L : List Int) (o : Nat → Bool) : Prop where
  ext : Ext w2 W
  own : W.ownsRow w2.heap.size 4 1 (.slice (some ⟨g, 0, none⟩) n cap) n ((View.bl n o).map Value.bool)
  ints : Ints W .i64 LA m d L
  bg : w2.heap.size ≤ g
  ne : ∀ ad, LA = some ad → ad.block ≠ g
theorem LeadsR.congr {w2 W : World} {g cap n : Nat} {LA : Option Addr} {m d : Nat} {L : List Int} {o p : Nat → Bool} (h : LeadsR w2 W g cap n LA m d L o) (e : ∀ x, x < n → o x = p x) : LeadsR w2 W g cap n LA m d L p :=
  ⟨h.ext, by rw [← View.bl_congr e]; exact h.own, h.ints, h.bg, h.ne⟩
theorem LeadsR.set {w2 W : World} {g cap n : Nat} {LA : Option Addr} {m d : Nat} {L : List Int} {o : Nat → Bool} (h : LeadsR w2 W g cap n LA m d L o) {p : Nat} (hp : p < n) : LeadsR w2 (W.setCell ⟨g, p, none⟩ (.bool true)) g cap n LA m d L (fun x => if x = p then true else o x) := by
  refine ⟨h.ext.setCell (p := ⟨g, p, none⟩) h.bg _, ?_, h.ints.setCell (fun _ ad e => h.ne ad e) _, h.bg, h.ne⟩
  have := own_store h.own hp (.bool true)
  rwa [← List.map_set, View.bl_set] at this
theorem LeadsR.at' {w2 W : World} {g cap n : Nat} {LA : Option Addr} {m d : Nat} {L : List Int} {o : Nat → Bool} (h : LeadsR w2 W g cap n LA m d L o) {p : Nat} (hp : p < n) : W.cell? ⟨g, p, none⟩ = some (.bool (o p)) :=
  own_cell h.own (by rw [List.getElem?_map, View.bl_get o hp]; rfl)
theorem make_bools (n : Nat) (hn : n ≤ 17592186043904) (W : World) :
    (Instr.makeSlice 30 (.int .i64 (n : Int)) (.int .i64 (n : Int))).run Try.prog W = .ok (.slice (some ⟨W.heap.size, 0, none⟩) n n) (W.alloc (.cells ((View.bl n (fun _ => false)).map Value.bool).toArray 4)) := by
  obtain ⟨i0, hi, hz0, hz1, hz2⟩ := info_parts (show (Try.prog.info? 4).map (fun i => (i.zero, i.size, i.bytes)) = some (some (.bool false), 1, 1) by kernel_rfl)
  have h := run_make (P := Try.prog) W 30 4 i0 _ Try.underlying30 hi hz0 .i64 .i64 (n : Int) (n : Int) (by omega) (Int.le_refl _) (by rw [hz2]; omega) (by omega)
  rw [hz1, Nat.mul_one] at h
  simp only [Int.toNat_natCast] at h
  have e : madeCells (Value.bool false).cells n = ((View.bl n (fun _ => false)).map Value.bool).toArray := by
    apply Array.toList_inj.1
    unfold View.bl
    rw [List.map_map]
    refine (toList_madeCells_one _ n).trans ?_
    apply List.ext_getElem (by simp)
    intro i h1 h2
    simp
  rw [e] at h
  exact h
theorem own_made {w : World} (e : TypeId) {n : Nat} {xs : List Value} (hl : xs.length = n) (hn : n ≤ 17592186043904) : (w.alloc (.cells xs.toArray e)).ownsRow w.heap.size e 1 (.slice (some ⟨w.heap.size, 0, none⟩) n n) n xs :=
  ⟨by simpa using hl, .inr ⟨_, n, xs.toArray, rfl, Nat.le_refl _, heap_alloc_new w _, Nat.le_refl _, by unfold maxLen; omega, by simpa using hl, by simp [← hl]⟩⟩
set_option maxRecDepth 100000 in
set_option maxHeartbeats 2000000 in
theorem vleads_any (A : Option Addr) (n c : Nat) (NS : List Node) (j : Nat) (hj : j < 18446744073709551616) (f : Int) (hf : (Lit.int .i64 f).wf = true) (w : World) (h : NL w A n c NS) :
    Calls Try.prog 11 #[.agg #[.slice A n c], .int .u64 j, .int .i64 f] w fun e w' => (∃ v, e = .returned v ∧ IsBools w' v (View.leadsV NS j f)) ∧ Ext w w' := by
  have hlen := h.len
  have hroom := h.row.room
  have HM := Lib.hid (fun b (hb : Tree.mayV NS = b) W (k : Ext w W) => treeMay_is A n c NS b hb W (h.ext k))
  have HV := Lib.hid (fun W (k : Ext w W) => h.ext k)
  clear h
  cases hm : Tree.mayV NS with
  | false =>
    have e : View.leadsV NS j f = [] := by unfold View.leadsV; rw [hm]; rfl
    rw [e]
    go_enter Try.func11, Try.ntmps11
    go_wp2
    go_step3
    go_wp2_with fail
    refine (HM.out false hm _ ((by repeat (first | assumption | exact Ext.refl _ | refine Ext.alloc ?_ _ | refine Ext.drew ?_ | refine Ext.drewN ?_ _ | refine Ext.setCell ?_ (by first | (simp; done) | omega | (simp; omega)) _ | refine Ext.trans (by assumption) ?_)))).mono ?_
    rintro e w1 ⟨rfl, hx1⟩
    have k1 : Ext w w1 := Ext.trans ((by repeat (first | assumption | exact Ext.refl _ | refine Ext.alloc ?_ _ | refine Ext.drew ?_ | refine Ext.drewN ?_ _ | refine Ext.setCell ?_ (by first | (simp; done) | omega | (simp; omega)) _ | refine Ext.trans (by assumption) ?_))) hx1
    go_wp2
    try rw [Exit.noGoto_ret]
    go_ret
    exact ⟨⟨_, rfl, ⟨none, 0, 0, rfl, rfl, Nat.le_refl _, by omega, fun _ => rfl, fun h => absurd h (Nat.lt_irrefl _)⟩⟩, k1⟩
  | true =>
    have e : View.leadsV NS j f = View.bl n (View.mark NS (View.leafTo NS j f n)) := by unfold View.leadsV; rw [hm, if_pos rfl, hlen]
    rw [e]
    clear e
    have h12 := Tree.len_le hm
    rw [hlen] at h12
    have hmk := fun W => make_bools n (by omega) W
    have HLN := Lib.hid hlen
    have HMA := Lib.hid hm
    obtain ⟨L, hL⟩ : ∃ L, View.leafTo NS j f n = L := ⟨_, rfl⟩
    have HLM := Lib.hid (fun y (hy : y ∈ L) => View.leafTo_mem (T := NS) (j := j) (f := f) (k := n) (x := y) (hL ▸ hy))
    have HS := Lib.hid (fun B0 B1 B2 W (k : Ext w W) c0 c1 c2 => vsome_any A n c NS j hj f hf B0 B1 B2 W (HV.out W k) c0 c1 c2)
    rw [hL] at HS ⊢
    clear hL
    go_enter Try.func11, Try.ntmps11
    go_wp2
    go_step3
    go_wp2_with fail
    refine (HM.out true hm _ ((by repeat (first | assumption | exact Ext.refl _ | refine Ext.alloc ?_ _ | refine Ext.drew ?_ | refine Ext.drewN ?_ _ | refine Ext.setCell ?_ (by first | (simp; done) | omega | (simp; omega)) _ | refine Ext.trans (by assumption) ?_)))).mono ?_
    rintro e w1 ⟨rfl, hx1⟩
    have k1 : Ext w w1 := Ext.trans ((by repeat (first | assumption | exact Ext.refl _ | refine Ext.alloc ?_ _ | refine Ext.drew ?_ | refine Ext.drewN ?_ _ | refine Ext.setCell ?_ (by first | (simp; done) | omega | (simp; omega)) _ | refine Ext.trans (by assumption) ?_))) hx1
    have t0 := hx1.cell (p := ⟨w.heap.size, 0, none⟩) (v := .slice A n c) (by first | (simp; done) | (simp (maxDischargeDepth := 7) [go_sem]; done))
    have t1 := hx1.cell (p := ⟨w.heap.size + 1, 0, none⟩) (v := .int .u64 j) (by first | (simp; done) | (simp (maxDischargeDepth := 7) [go_sem]; done))
    have t2 := hx1.cell (p := ⟨w.heap.size + 1 + 1, 0, none⟩) (v := .int .i64 f) (by first | (simp; done) | (simp (maxDischargeDepth := 7) [go_sem]; done))
    have tl := lt_of_cell t0
    clear HM hm hlen
    go_wp2
    go_step3
    go_wp2_with fail
    have kA : Ext w1 (w1.alloc (.cells ((View.bl n (fun _ => false)).map Value.bool).toArray 4)) := (by repeat (first | assumption | exact Ext.refl _ | refine Ext.alloc ?_ _ | refine Ext.drew ?_ | refine Ext.drewN ?_ _ | refine Ext.setCell ?_ (by first | (simp; done) | omega | (simp; omega)) _ | refine Ext.trans (by assumption) ?_))
    have ownA := own_made (w := w1) 4 (n := n) (xs := (View.bl n (fun _ => false)).map Value.bool) (by rw [List.length_map, View.bl_len]) (by omega)
    refine (HS.out _ _ _ _ (k1.trans kA) (kA.cell t0) (kA.cell t1) (kA.cell t2)).mono ?_
    rintro e w3 ⟨⟨v, rfl, ⟨LA, m, d, rfl, hLi, hne⟩⟩, hx3⟩
    have R0 : LeadsR w1 w3 w1.heap.size n n LA m d L (View.mark NS (L.take 0)) := by
      refine ⟨kA.trans hx3, ?_, hLi, Nat.le_refl _, fun ad e => ?_⟩
      · have := own_ext ownA hx3
        rw [View.bl_congr (p := View.mark NS (L.take 0)) (fun x _ => by simp [View.mark])] at this
        exact this
      · have := hne ad e
        simp at this
        omega
    have hlm := hLi.len
    have hmroom := hLi.room
    have HLL := Lib.hid hlm
    have T0 := Lib.hid t0
    clear t1 t2 t0 hx3 hLi hne kA ownA HS hmk hlm
    go_wp2
    go_loopg [9, 22] m (fun g _ k' wr => ∃ k : Nat, k + g = m ∧ k' = .int .i64 k ∧ LeadsR w1 wr w1.heap.size n n LA m d L (View.mark NS (L.take k)))
    case atStart => exact ⟨0, by omega, rfl, R0⟩
    case round =>
      obtain ⟨k, hkg, rfl, R⟩ := hrel
      clear R0
      cases gk with
      | zero =>
        obtain rfl : m = k := by omega
        have hg : ¬ ((m : Int) < m) := by omega
        rw [List.take_of_length_le (by rw [HLL.out]; exact Nat.le_refl _)] at R
        have HR := Lib.hid R
        clear R
        go_wp2
        try rw [Exit.noGoto_ret]
        go_ret
        exact ⟨⟨_, rfl, isBools_own HR.out.own (by omega)⟩, k1.trans HR.out.ext⟩
      | succ g =>
        have hkm : k < m := by omega
        have gk1 : (k : Int) < m := by omega
        obtain ⟨bL, oL, rfl, hcL⟩ := R.ints.cells (by omega)
        have d0 := hcL k hkm
        obtain ⟨y, hy⟩ : ∃ y, L[k]? = some y := ⟨_, List.getElem?_eq_getElem (by rw [HLL.out]; exact hkm)⟩
        have hny : nth L k = y := by unfold nth; rw [List.getD_eq_getElem?_getD, hy]; rfl
        rw [hny] at d0
        have hyr := HLM.out y (List.mem_of_getElem? hy)
        obtain ⟨y, rfl⟩ := Int.eq_ofNat_of_zero_le hyr.1
        have hyn : y < n := by omega
        have HTK : Hid (L.take (k + 1) = L.take k ++ [(y : Int)]) := by show _ = _; rw [List.take_add_one, hy]; rfl
        have R1 := R.congr (p := View.upM NS (L.take k) y y) (fun x _ => (View.up_start NS _ y x).symm)
        clear R hcL hny hy hyr
        go_wp2
        go_loopg [9] (n + 1) (fun g2 c' wq => ∃ cu : Int, (cu + 1).toNat ≤ g2 ∧ -1 ≤ cu ∧ cu < n ∧ c' = .int .i64 cu ∧ (0 ≤ cu → cu.toNat ∈ Tree.line NS y) ∧ LeadsR w1 wq w1.heap.size n n (some ⟨bL, oL, none⟩) m d L (View.upM NS (L.take k) y cu))
        case atStart => exact ⟨y, by omega, by omega, by omega, rfl, fun _ => Tree.mem_self NS y, R1⟩
        case round =>
          obtain ⟨cu, hg2, hc1, hc2, rfl, hin, R2⟩ := hrel
          clear R1
          by_cases h0 : 0 ≤ cu
          · obtain ⟨cu, rfl⟩ := Int.eq_ofNat_of_zero_le h0
            have hcn : cu < n := by omega
            have gcn : (cu : Int) < n := by omega
            have hcy := hin h0
            rw [Int.toNat_natCast] at hcy
            have c0 := R2.at' hcn
            have fr := own_free R2.own cu
            cases hb : View.upM NS (L.take k) y cu cu with
            | true =>
              rw [hb] at c0
              have R3 := R2.congr (p := View.mark NS (L.take (k + 1))) (fun x _ => by rw [HTK.out]; exact View.up_met hcy hb x)
              have HR := Lib.hid R3
              clear R2 R3 hb hin
              go_wp2
              go_roundg g
              case measure => omega
              case rel => exact ⟨k + 1, by omega, by first | rfl | simp, HR.out⟩
            | false =>
              rw [hb] at c0
              have hpi := View.par_in HMA.out (by rw [HLN.out]; exact hcn) hcy
              have R3 := (R2.set hcn).congr (p := View.upM NS (L.take k) y (Tree.nd NS cu).par) (fun x _ => View.up_go HMA.out (by rw [HLN.out]; exact hcn) hcy x)
              obtain ⟨b, off, rfl, hr, hok⟩ := (HV.out _ (k1.trans R3.ext)).at' hcn
              have dp := rangeAt_head hr (Node.at32 hok)
              change World.cell? _ _ = some (.int .i64 (Tree.nd NS cu).par) at dp
              have tt := R3.ext.cell T0.out
              generalize (Tree.nd NS cu).par = pp at *
              have HR := Lib.hid R3
              have HPI := Lib.hid hpi
              clear R2 R3 hb hin hr hok hpi
              go_wp2
              obtain ⟨q1, q2, q3⟩ := HPI.out
              go_roundg cu
              case measure => omega
              case rel => exact ⟨pp, by omega, q1, by omega, rfl, q3, HR.out⟩
          · have ec : cu = -1 := by omega
            subst ec
            have R3 := R2.congr (p := View.mark NS (L.take (k + 1))) (fun x _ => by rw [HTK.out]; exact View.up_end NS _ y x)
            have HR := Lib.hid R3
            clear R2 R3 hin
            go_wp2
            go_roundg g
            case measure => omega
            case rel => exact ⟨k + 1, by omega, by first | rfl | simp, HR.out⟩
end Go.Proofs.Ytophpemlaecglaa
