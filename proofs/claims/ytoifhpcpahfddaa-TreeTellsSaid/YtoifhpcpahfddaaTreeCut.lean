/- tree.Cut. -/
import Derived.Test.YtoifhpcpahfddaaTreeKids
namespace Go.Proofs.Ytoifhpcpahfddaa
open Go.RowKit Go.WideShapes Go.ChangeShapes
set_option linter.unusedVariables false
set_option linter.unusedSimpArgs false





theorem cutTo_ok {T : List Node} (hT : ∀ j, (Tree.nd T j).Ok) (hl : T.length ≤ 12) (i k : Nat) (hk : k ≤ T.length) : ∀ x ∈ Tree.cutTo T i k, x.Ok := by
  intro x hx
  unfold Tree.cutTo at hx
  obtain ⟨j, hj, rfl⟩ := List.mem_map.1 hx
  have hjk := (Tree.mem_kept.1 hj).1
  have h1 := Tree.kept_len T i j
  have h2 : List.idxOf (Tree.up T j) (Tree.keptTo T i j) ≤ (Tree.keptTo T i j).length := List.idxOf_le_length
  refine ⟨(hT j).1, ?_, (hT j).2.2.1, (hT j).2.2.2⟩
  show (Lit.int .i64 (Tree.newPar T i j)).wf = true
  unfold Tree.newPar
  split
  · decide
  · exact wf_i64 (by omega) (by omega)
def keptI (T : List Node) (i k : Nat) : List Int := (Tree.keptTo T i k).map (fun j => ((j : Nat) : Int))
theorem keptI_len (T : List Node) (i k : Nat) : (keptI T i k).length = (Tree.keptTo T i k).length := by unfold keptI; simp
theorem keptI_nodup (T : List Node) (i k : Nat) : (keptI T i k).Nodup := by
  unfold keptI
  exact List.Pairwise.map _ (fun a b h e => h (by omega)) (Tree.kept_nodup T i k)
/-- What holds between two rounds. -/
structure CutR (w1 wr : World) (T : List Node) (A : Option Addr) (n c i k Bm Bo base : Nat) (v : Value) (D : DataW Unit) : Prop where
  ext : Ext w1 wr
  map : JMap wr Bm (keptI T i k) D
  own : wr.ownsRow base 34 35 v (Tree.keptTo T i k).length (flatN (Tree.cutTo T i k))
  box : wr.cell? ⟨Bo, 0, none⟩ = some v
  free : wr.frozen? ⟨Bo, 0, none⟩ = false
  big : base ≤ wr.heap.size
theorem grown_cell {w w' : World} {row : Option Nat} (h : w.grownBy w' row) {B o : Nat} {v : Value} (hc : w.cell? ⟨B, o, none⟩ = some v) (hne : row ≠ some B) : w'.cell? ⟨B, o, none⟩ = some v :=
  (World.cell?_of_block (w := w) (h.block B (lt_of_cell hc) (fun e => hne e.symm))).trans hc
theorem grown_free {w w' : World} {row : Option Nat} (h : w.grownBy w' row) {B o : Nat} {v : Value} (hc : w.cell? ⟨B, o, none⟩ = some v) (hne : row ≠ some B) {o' : Nat} (hf : w.frozen? ⟨B, o', none⟩ = false) : w'.frozen? ⟨B, o', none⟩ = false :=
  (World.frozen?_of_block (w := w) (a := ⟨B, o', none⟩) (h.block B (lt_of_cell hc) (fun e => hne e.symm))).trans hf
theorem grown_range {w w' : World} {row : Option Nat} (h : w.grownBy w' row) {B o : Nat} {cs : List Value} (hr : w.rangeAt B o cs) (hne : row ≠ some B) : w'.rangeAt B o cs := fun j v hv => grown_cell h (hr j v hv) hne
theorem range_set {w : World} {B : Nat} {cs : List Value} (h : w.rangeAt B 0 cs) {j : Nat} (hj : j < cs.length) (v : Value) : (w.setCell ⟨B, j, none⟩ v).rangeAt B 0 (cs.set j v) := fun i u hu => by
  rw [Nat.zero_add]
  by_cases e : i = j
  · subst e
    rw [List.getElem?_set_self hj] at hu
    obtain rfl := Option.some.inj hu
    have := h i _ (List.getElem?_eq_getElem hj)
    rw [Nat.zero_add] at this
    exact World.cell?_setCell_same' _ _ _ (by rw [this]; rfl)
  · rw [List.getElem?_set_ne (fun e' => e e'.symm)] at hu
    have := h i u hu
    rw [Nat.zero_add] at this
    have hne : (⟨B, j, none⟩ : Addr) ≠ ⟨B, i, none⟩ := by
      intro e'
      have := congrArg Addr.off e'
      simp at this
      exact e this.symm
    exact (World.cell?_setCell_other _ _ _ _ hne).trans this
theorem own_setCell' {w : World} {base : Nat} {e : TypeId} {size : Nat} {v : Value} {n : Nat} {xs : List Value} (h : w.ownsRow base e size v n xs) {a : Addr} (ha : v.ownBlock ≠ some a.block) (u : Value) : (w.setCell a u).ownsRow base e size v n xs := by
  refine ⟨h.1, h.2.imp id ?_⟩
  rintro ⟨g, cap, cur, rfl, h1, h2, h3⟩
  refine ⟨g, cap, cur, rfl, h1, ?_, h3⟩
  rw [Below.heap_setCell w a u g (fun e => ha (by rw [e]; rfl))]
  exact h2
theorem src_atN {w : World} {B size m c : Nat} {e : TypeId} {xs : List Value} (hl : xs.length = m * size) (h1 : ∀ u ∈ xs, u.oneCell' = true) (hB : B = w.heap.size) : Src (w.alloc (.cells xs.toArray e)) size (some ⟨B, 0, none⟩) m c xs := by
  subst hB; exact src_new hl h1
theorem cut_box {w1 wr w3 w4 : World} {NS : List Node} {A : Option Addr} {n c i k Bm Bo c' : Nat} {A' : Option Addr} {D : DataW Unit} {p : Value} {o o2 : Obj} (R : CutR w1 wr NS A n c i k Bm Bo (Bo + 1) (.slice A' (Tree.keptTo NS i k).length c') D)
    (q2 : Bm < Bo) (hgrow3 : (wr.alloc o).grownBy w3 (some Bm)) (hgrow4 : ((w3.setCell ⟨wr.heap.size, 32, none⟩ p).alloc o2).grownBy w4 (Value.slice A' (Tree.keptTo NS i k).length c').ownBlock) :
    w4.cell? ⟨Bo, 0, none⟩ = some (.slice A' (Tree.keptTo NS i k).length c') ∧ w4.frozen? ⟨Bo, 0, none⟩ = false := by
  have sz := R.big
  have z3 : wr.heap.size + 1 ≤ w3.heap.size := by have := hgrow3.size; simpa using this
  have hob : ∀ j, (Value.slice A' (Tree.keptTo NS i k).length c').ownBlock = some j → Bo + 1 ≤ j := own_from R.own
  have b3 : w3.cell? ⟨Bo, 0, none⟩ = some (.slice A' (Tree.keptTo NS i k).length c') := grown_cell hgrow3 (((Ext.refl wr).alloc o).cell R.box) (by simp; omega)
  have f0 : (wr.alloc o).frozen? ⟨Bo, 0, none⟩ = false := (((Ext.refl wr).alloc o).out.frozen (p := ⟨Bo, 0, none⟩) (lt_of_cell R.box)).trans R.free
  have f3 : w3.frozen? ⟨Bo, 0, none⟩ = false := grown_free hgrow3 (((Ext.refl wr).alloc o).cell R.box) (by simp; omega) f0
  have hne : Bo ≠ wr.heap.size := by omega
  have hb : ((w3.setCell ⟨wr.heap.size, 32, none⟩ p).alloc o2).cell? ⟨Bo, 0, none⟩ = some (.slice A' (Tree.keptTo NS i k).length c') := (Ext.refl _).alloc o2 |>.cell (by
    rw [World.cell?_of_block (w := w3) (Below.heap_setCell w3 ⟨wr.heap.size, 32, none⟩ p Bo hne)]
    exact b3)
  refine ⟨grown_cell hgrow4 hb (fun e => by have := hob _ e; omega), ?_⟩
  refine grown_free hgrow4 hb (fun e => by have := hob _ e; omega) ?_
  have hlt : Bo < (w3.setCell ⟨wr.heap.size, 32, none⟩ p).heap.size := by simp; omega
  rw [((Ext.refl (w3.setCell ⟨wr.heap.size, 32, none⟩ p)).alloc o2).out.frozen (p := ⟨Bo, 0, none⟩) hlt, World.frozen?_setCell]
  exact f3
/-- A round that keeps a node. -/
theorem cut_next {w1 wr w3 w4 : World} {NS : List Node} {A : Option Addr} {n c i k Bm Bo c' : Nat} {A' : Option Addr} {D : DataW Unit} {v' p : Value} {o o2 : Obj} {x : Node} (R : CutR w1 wr NS A n c i k Bm Bo (Bo + 1) (.slice A' (Tree.keptTo NS i k).length c') D)
    (q1 : w1.heap.size ≤ Bm) (q2 : Bm < Bo) (hk : k < 9223372036854775807) (hmem : i ∈ Tree.line NS k) (hx : { Tree.nd NS k with par := Tree.newPar NS i k } = x)
    (hown3 : w3.ownsMap Try.prog 3 (plainElem Try.prog 3) Bm ((Tree.keptTo NS i k).length + 1) (D.put (.int .i64 k) (.lit (.int .i64 ((Tree.keptTo NS i k).length : Nat))))) (hgrow3 : (wr.alloc o).grownBy w3 (some Bm))
    (hown4 : w4.ownsRow (Bo + 1) 34 35 v' ((Tree.keptTo NS i k).length + 1) (flatN (Tree.cutTo NS i k) ++ x.cells)) (hgrow4 : ((w3.setCell ⟨wr.heap.size, 32, none⟩ p).alloc o2).grownBy w4 (Value.slice A' (Tree.keptTo NS i k).length c').ownBlock) :
    CutR w1 (w4.setCell ⟨Bo, 0, none⟩ v') NS A n c i (k + 1) Bm Bo (Bo + 1) v' (D.put (.int .i64 k) (.lit (.int .i64 ((Tree.keptTo NS i k).length : Nat)))) := by
  have e0 : Ext w1 (wr.alloc o) := R.ext.alloc o
  have e3 : Ext w1 w3 := e0.grown hgrow3 (fun j e => by cases e; exact q1)
  have sz := R.big
  have z3 : wr.heap.size + 1 ≤ w3.heap.size := by have := hgrow3.size; simpa using this
  have hob : ∀ j, (Value.slice A' (Tree.keptTo NS i k).length c').ownBlock = some j → Bo + 1 ≤ j := own_from R.own
  have e4 : Ext w1 w4 := ((e3.setCell (p := ⟨wr.heap.size, 32, none⟩) (by show w1.heap.size ≤ wr.heap.size; omega) _).alloc _).grown hgrow4 (fun j e => by have := hob j e; omega)
  have z4 : w3.heap.size + 1 ≤ w4.heap.size := by have := hgrow4.size; simpa using this
  have b3 : w3.cell? ⟨Bo, 0, none⟩ = some (.slice A' (Tree.keptTo NS i k).length c') := grown_cell hgrow3 (((Ext.refl wr).alloc o).cell R.box) (by simp; omega)
  have f0 : (wr.alloc o).frozen? ⟨Bo, 0, none⟩ = false := (((Ext.refl wr).alloc o).out.frozen (p := ⟨Bo, 0, none⟩) (lt_of_cell R.box)).trans R.free
  have f3 : w3.frozen? ⟨Bo, 0, none⟩ = false := grown_free hgrow3 (((Ext.refl wr).alloc o).cell R.box) (by simp; omega) f0
  have hne : Bo ≠ wr.heap.size := by omega
  have b4 : w4.cell? ⟨Bo, 0, none⟩ = some (.slice A' (Tree.keptTo NS i k).length c') := by
    refine grown_cell hgrow4 ((Ext.refl _).alloc o2 |>.cell ?_) (fun e => by have := hob _ e; omega)
    rw [World.cell?_of_block (w := w3) (Below.heap_setCell w3 ⟨wr.heap.size, 32, none⟩ p Bo hne)]
    exact b3
  have f4 : w4.frozen? ⟨Bo, 0, none⟩ = false := by
    have hb : ((w3.setCell ⟨wr.heap.size, 32, none⟩ p).alloc o2).cell? ⟨Bo, 0, none⟩ = some (.slice A' (Tree.keptTo NS i k).length c') := (Ext.refl _).alloc o2 |>.cell (by
      rw [World.cell?_of_block (w := w3) (Below.heap_setCell w3 ⟨wr.heap.size, 32, none⟩ p Bo hne)]
      exact b3)
    refine grown_free hgrow4 hb (fun e => by have := hob _ e; omega) ?_
    have hlt : Bo < (w3.setCell ⟨wr.heap.size, 32, none⟩ p).heap.size := by simp; omega
    rw [((Ext.refl (w3.setCell ⟨wr.heap.size, 32, none⟩ p)).alloc o2).out.frozen (p := ⟨Bo, 0, none⟩) hlt, World.frozen?_setCell]
    exact f3
  refine ⟨e4.setCell (p := ⟨Bo, 0, none⟩) (by show w1.heap.size ≤ Bo; omega) _, ?_, ?_, World.cell?_setCell_same' _ _ _ (by rw [b4]; rfl), by rw [World.frozen?_setCell]; exact f4, by simp; omega⟩
  · have hl := keptI_len NS i k
    have h5 : (w4.setCell ⟨Bo, 0, none⟩ v').ownsMap Try.prog 3 (plainElem Try.prog 3) Bm ((Tree.keptTo NS i k).length + 1) (D.put (.int .i64 k) (.lit (.int .i64 ((Tree.keptTo NS i k).length : Nat)))) :=
      (((hown3.setCell (a := ⟨wr.heap.size, 32, none⟩) (by show Bm ≠ wr.heap.size; omega) p).alloc o2).kept hgrow4 (fun e => by have := hob _ e.symm; omega)).setCell (a := ⟨Bo, 0, none⟩) (by show Bm ≠ Bo; omega) v'
    have h6 := R.map.put (w' := w4.setCell ⟨Bo, 0, none⟩ v') (x := (k : Int)) (wf_i64 (by omega) (by omega)) (by rw [hl]; exact h5)
    rw [hl] at h6
    have : keptI NS i (k + 1) = keptI NS i k ++ [(k : Int)] := by unfold keptI; rw [Tree.kept_yes hmem, List.map_append]; rfl
    rw [this]
    exact h6
  · rw [Tree.cut_yes hmem, flatN_snoc, Tree.kept_yes hmem, hx]
    have := own_setCell (a := ⟨Bo, 0, none⟩) hown4 (by show Bo < Bo + 1; omega) v'
    simpa using this
theorem cut_skip {w1 wr : World} {NS : List Node} {A : Option Addr} {n c i k Bm Bo base : Nat} {v : Value} {D : DataW Unit} (R : CutR w1 wr NS A n c i k Bm Bo base v D) (hno : i ∉ Tree.line NS k) (o : Obj) : CutR w1 (wr.alloc o) NS A n c i (k + 1) Bm Bo base v D := by
  have hx := (Ext.refl wr).alloc o
  have hk : keptI NS i (k + 1) = keptI NS i k := by unfold keptI; rw [Tree.kept_no hno]
  refine ⟨R.ext.alloc o, by rw [hk]; exact R.map.ext hx, ?_, hx.cell R.box, (hx.out.frozen (p := ⟨Bo, 0, none⟩) (lt_of_cell R.box)).trans R.free, by have := R.big; simp; omega⟩
  rw [Tree.kept_no hno, Tree.cut_no hno]
  exact R.own.alloc o
set_option maxRecDepth 100000 in
set_option maxHeartbeats 4000000 in
theorem cut_any (A : Option Addr) (n c : Nat) (NS : List Node) (i : Int) (hi : (Lit.int .i64 i).wf = true) (w : World) (h : NL w A n c NS) :
    Calls Try.prog 15 #[.agg #[.slice A n c], .int .i64 i] w fun e w' => (∃ A2 m c2, e = .returned (.agg #[.slice A2 m c2]) ∧ NL w' A2 m c2 (Tree.cutV NS i)) ∧ Ext w w' := by
  have hlen := h.len
  have hroom := h.row.room
  have HV := Lib.hid (fun W (k : Ext w W) => h.ext k)
  have HOK := Lib.hid (fun j => h.okAt j)
  have HI := Lib.hid (fun L m d W (kx : Ext w W) (g : Ints W .i64 L m d [i]) => is_any A n c NS L m d [i] W (h.ext kx) g)
  rw [isL_one] at HI
  have HW := Lib.hid (show ∀ x ∈ [i], (Lit.int .i64 x).wf = true from fun x hx => by simp at hx; subst hx; exact hi)
  clear h
  obtain ⟨q, hq⟩ : ∃ q, Tree.isV NS i = q := ⟨_, rfl⟩
  rw [hq] at HI
  cases q with
  | false =>
    have e : Tree.cutV NS i = [] := by unfold Tree.cutV; rw [hq]; rfl
    rw [e]
    clear hq e
    go_enter Try.func15, Try.ntmps15
    go_wp2_with fail
    refine (HI.out (some ⟨w.heap.size + 1 + 1, 0, none⟩) 1 1 _ ((by repeat (first | assumption | exact Ext.refl _ | refine Ext.alloc ?_ _ | refine Ext.drew ?_ | refine Ext.drewN ?_ _ | refine Ext.setCell ?_ (by first | (simp; done) | omega | (simp; omega)) _ | refine Ext.trans (by assumption) ?_))) (ints_at' (e := 3) [i] HW.out (by simp) (by simp))).mono ?_
    rintro e w1 ⟨rfl, hx1⟩
    have k1 : Ext w w1 := Ext.trans ((by repeat (first | assumption | exact Ext.refl _ | refine Ext.alloc ?_ _ | refine Ext.drew ?_ | refine Ext.drewN ?_ _ | refine Ext.setCell ?_ (by first | (simp; done) | omega | (simp; omega)) _ | refine Ext.trans (by assumption) ?_))) hx1
    have c1 : w1.cell? ⟨w.heap.size + 1, 0, none⟩ = some (.slice none 0 0) := hx1.cell (by simp (maxDischargeDepth := 7) [go_sem])
    have f1 : w1.frozen? ⟨w.heap.size + 1, 0, none⟩ = false := (hx1.out.frozen (p := ⟨w.heap.size + 1, 0, none⟩) (by simp)).trans (by simp (maxDischargeDepth := 7) [go_sem])
    go_wp2
    exact bodyPost_ret (v := .agg #[.slice none 0 0]) (by simp (maxDischargeDepth := 7) [results, Try.results15, go_sem, c1, f1]) rfl ⟨⟨none, 0, 0, rfl, NL.nil_mk _⟩, k1.setCell (by show w.heap.size ≤ w.heap.size + 1; omega) _⟩
  | true =>
    have hv : Tree.mayV NS = true ∧ (0 ≤ i ∧ i < n) := by
      unfold Tree.isV at hq
      rw [hlen] at hq
      simp at hq
      exact hq
    obtain ⟨hm, i1, i2⟩ := hv
    obtain ⟨i, rfl⟩ := Int.eq_ofNat_of_zero_le i1
    have e : Tree.cutV NS (i : Int) = Tree.cutTo NS i n := by unfold Tree.cutV; rw [hq, if_pos rfl, hlen]; rfl
    rw [e]
    have h12 := Tree.len_le hm
    rw [hlen] at h12
    have HMA := Lib.hid hm
    have HLE := Lib.hid hlen
    have hmm := @run_makeMap Try.prog
    clear hq e i1 hm hlen
    go_enter Try.func15, Try.ntmps15
    go_wp2_with fail
    refine (HI.out (some ⟨w.heap.size + 1 + 1, 0, none⟩) 1 1 _ ((by repeat (first | assumption | exact Ext.refl _ | refine Ext.alloc ?_ _ | refine Ext.drew ?_ | refine Ext.drewN ?_ _ | refine Ext.setCell ?_ (by first | (simp; done) | omega | (simp; omega)) _ | refine Ext.trans (by assumption) ?_))) (ints_at' (e := 3) [(i : Int)] HW.out (by simp) (by simp))).mono ?_
    rintro e w1 ⟨rfl, hx1⟩
    have k1 : Ext w w1 := Ext.trans ((by repeat (first | assumption | exact Ext.refl _ | refine Ext.alloc ?_ _ | refine Ext.drew ?_ | refine Ext.drewN ?_ _ | refine Ext.setCell ?_ (by first | (simp; done) | omega | (simp; omega)) _ | refine Ext.trans (by assumption) ?_))) hx1
    have c0 : w1.cell? ⟨w.heap.size, 0, none⟩ = some (.slice A n c) := hx1.cell (by simp (maxDischargeDepth := 7) [go_sem])
    have c1 : w1.cell? ⟨w.heap.size + 1, 0, none⟩ = some (.slice none 0 0) := hx1.cell (by simp (maxDischargeDepth := 7) [go_sem])
    have f1 : w1.frozen? ⟨w.heap.size + 1, 0, none⟩ = false := (hx1.out.frozen (p := ⟨w.heap.size + 1, 0, none⟩) (by simp)).trans (by simp (maxDischargeDepth := 7) [go_sem])
    have C1 := Lib.hid c1
    have F1 := Lib.hid f1
    have l0 := lt_of_cell c0
    go_wp2
    obtain ⟨w2, hw2⟩ : ∃ w2, ((w1.alloc (.map #[] 0)).alloc (.cells #[.slice none 0 0] 24)) = w2 := ⟨_, rfl⟩
    have R0 : CutR w1 w2 NS A n c i 0 w1.heap.size (w1.heap.size + 1) (w1.heap.size + 1 + 1) (.slice none 0 0) (.map []) := by
      rw [← hw2]
      exact ⟨((Ext.refl w1).alloc _).alloc _, (JMap.made w1).ext ((Ext.refl _).alloc _), own_new _ _ _ _, by simp (maxDischargeDepth := 7) [go_sem], by simp (maxDischargeDepth := 7) [go_sem], by simp⟩
    rw [hw2]
    obtain ⟨Bm, hBm⟩ : ∃ Bm, w1.heap.size = Bm := ⟨_, rfl⟩
    obtain ⟨Bo, hBo⟩ : ∃ Bo, Bm + 1 = Bo := ⟨_, rfl⟩
    rw [hBm, hBo] at R0
    rw [hBm, hBo]
    have q1 : w1.heap.size ≤ Bm := by omega
    have q2 : Bm < Bo := by omega
    have C0 := Lib.hid c0
    clear hw2 hBm hBo c0 c1 f1
    go_loopw [7, 8, 9, 10, 21] (fun _ _ _ _ i' wr => ∃ (k : Nat) (v : Value) (D : DataW Unit), k ≤ n ∧ i' = .int .i64 k ∧ CutR w1 wr NS A n c i k Bm Bo (Bo + 1) v D) (fun _ _ _ _ i' _ => n - (intOf i').toNat)
    case atStart => exact ⟨0, _, _, Nat.zero_le _, rfl, R0⟩
    case round =>
      obtain ⟨k, v, D, hk, rfl, R⟩ := hrel
      clear R0
      by_cases hlt : k < n
      · obtain ⟨A', c', rfl⟩ := own_form' R.own
        obtain ⟨b, off, rfl, hr, hok⟩ := (HV.out wr (k1.trans R.ext)).at' hlt
        change wr.rangeAt _ _ (Tree.nd NS k).cells at hr
        replace hok : (Tree.nd NS k).Ok := hok
        have hkn : k < NS.length := by rw [HLE.out]; exact hlt
        have hhas := R.map.has _ hok.2.1
        have hbo := R.box
        have hboo := lt_of_cell hbo
        have hfo := R.free
        have hext := R.ext
        have hown := R.map.own
        have HR := Lib.hid R
        have g1 : (k : Int) < n := by omega
        have hi35 : (Try.prog.info? 34).map (·.size) = some (Tree.nd NS k).cells.length := by rw [Node.len hok]; kernel_rfl
        have a32 := Node.at32 hok
        have hpwf := hok.2.1
        clear R
        by_cases hki : k = i
        · have hmem : Hid (i ∈ Tree.line NS k) := by show i ∈ Tree.line NS k; rw [hki]; exact Tree.mem_self NS i
          have hno : decide ((Tree.nd NS k).par ∈ keptI NS i k) = false := by
            rw [hki]; unfold keptI; rw [Tree.kept_self]; simp
          rw [hno] at hhas
          have g2 : ((k : Int) != i) = false := by simp; omega
          have g3 : ((k : Int) == i) = true := by simp; omega
          obtain ⟨x, hx⟩ : ∃ x, Tree.nd NS k = x := ⟨_, rfl⟩
          have HX := Lib.hid hx
          rw [hx] at hr hok hhas hi35 a32 hpwf
          have HKI := Lib.hid hki
          clear hx hno hki
          have hp : Tree.newPar NS i k = -1 := by unfold Tree.newPar; rw [if_pos HKI.out]
          have hxx : Hid ({ Tree.nd NS k with par := Tree.newPar NS i k } = ({ x with par := -1 } : Node)) := by show _ = _; rw [HX.out, hp]
          have hcwf : (Lit.int .i64 (-1)).wf = true := by decide
          clear hp
          have hxok : Node.Ok ({ x with par := (-1) } : Node) := ⟨hok.1, hcwf, hok.2.2.1, hok.2.2.2⟩
          have hi35' : (Try.prog.info? 34).map (·.size) = some (Node.cells { x with par := (-1) }).length := by rw [Node.len hxok]; kernel_rfl
          have hl35 := Node.len hxok
          have hkl := keptI_len NS i k
          have hkle := Tree.kept_len NS i k
          rw [hkl] at hown
          have he := elemI (x := ((Tree.keptTo NS i k).length : Nat)) (wf_i64 (by omega) (by omega))
          have hkwf := wf_i64 (x := (k : Int)) (by omega) (by omega)
          have hne1 : Bo ≠ wr.heap.size := by omega
          have hne2 : wr.heap.size ≠ Bo := by omega
          have HKL := Lib.hid hkl
          have bx := ((Ext.refl wr).alloc (.cells x.cells.toArray 34)).cell hbo
          have fx := (((Ext.refl wr).alloc (.cells x.cells.toArray 34)).out.frozen (p := ⟨Bo, 0, none⟩) (lt_of_cell hbo)).trans hfo
          have rx := range_at (w := wr) (B := wr.heap.size) x.cells 34 rfl
          have hbuild : List.foldl (fun (c : Array Value) (x : Value × Nat) => c.setIfInBounds x.snd x.fst) (#[Value.int .u8 0, Value.int .u8 0, Value.int .u8 0, Value.int .u8 0, Value.int .u8 0, Value.int .u8 0, Value.int .u8 0, Value.int .u8 0, Value.int .u8 0, Value.int .u8 0, Value.int .u8 0, Value.int .u8 0, Value.int .u8 0, Value.int .u8 0, Value.int .u8 0, Value.int .u8 0, Value.int .u8 0, Value.int .u8 0, Value.int .u8 0, Value.int .u8 0, Value.int .u8 0, Value.int .u8 0, Value.int .u8 0, Value.int .u8 0, Value.int .u8 0, Value.int .u8 0, Value.int .u8 0, Value.int .u8 0, Value.int .u8 0, Value.int .u8 0, Value.int .u8 0, Value.int .u8 0, Value.int .i64 0, Value.int .u64 0, Value.int .u64 0]) (Node.cells { x with par := (-1) }).zipIdx = (Node.cells { x with par := (-1) }).toArray := fold_put0 (by rw [Node.len hxok]; rfl)
          clear hkl
          go_wp2_with (first | (refine wpList_load_mid rfl 34 _ rfl _ _ rfl x.cells _ (rangeAt_ext hr ((by repeat (first | assumption | exact Ext.refl _ | refine Ext.alloc ?_ _ | refine Ext.drew ?_ | refine Ext.drewN ?_ _ | refine Ext.setCell ?_ (by first | (simp; done) | omega | (simp; omega)) _ | refine Ext.trans (by assumption) ?_)))) Try.underlying34 rfl hi35 ?_) | (refine wpList_store_mid rfl 34 _ _ rfl _ 0 x.cells.toArray rfl rfl (there_at (by simp) _ (by rw [List.size_toArray, Node.len hok]; decide)) (by rw [List.size_toArray]; exact hi35) (all_oneCell_toArray (Node.one x)) ?_; rw [List.toList_toArray, setCells_at (by simp) (by rw [Node.len hok]; rfl)]) | (at_lookup; refine wpList_lookup_own_ok_int _ rfl _ _ 64 rfl 3 3 .i64 keyInt Try.underlying64 Try.underlying3 (zeroI _) Bm _ D rfl (hown.alloc _) _ (.int .i64 x.par) rfl (Maps.keyOf_int_mk Try.underlying3 hpwf) ?_; intro cz hc hwc; rw [hhas]; skip) | (at_mapUpdate; refine wpList_mapUpdate_own _ rfl _ _ _ 64 rfl 3 3 keyInt Try.underlying64 _ Bm (Tree.keptTo NS i k).length D rfl (hown.alloc _) (by unfold maxLen; omega) _ _ (.int .i64 k) rfl rfl (Maps.keyOf_int_mk Try.underlying3 hkwf) _ [] he ?_; intro w3 hown3 hgrow3; have b3 := grown_cell hgrow3 bx (by simp; omega); have f3 := grown_free hgrow3 bx (by simp; omega) fx; have r3 := grown_range hgrow3 rx (by simp; omega); have n3 := rangeAt_head r3 (Node.at32 hok); simp only [Nat.zero_add] at n3; have nf3 : w3.frozen? ⟨wr.heap.size, 32, none⟩ = false := grown_free hgrow3 (rx 32 _ (Node.at32 hok)) (by simp; omega) (by simp); have R4 := range_set r3 (j := 32) (by rw [Node.len hok]; omega) (.int .i64 (-1)); rw [Node.set_par hok] at R4; have z3 : wr.heap.size + 1 ≤ w3.heap.size := (by have := hgrow3.size; rw [World.size_alloc] at this; exact this); have o3 := own_setCell' ((HR.out.own.alloc (.cells x.cells.toArray 34)).kept hgrow3 (.inr (fun e => by have := own_from HR.out.own _ e; omega))) (a := ⟨wr.heap.size, 32, none⟩) (fun e => by have := (HR.out.own.lt _ e).2; simp at this) (.int .i64 (-1))) | (refine wpList_load_mid rfl 34 _ rfl _ _ rfl (Node.cells { x with par := (-1) }) _ R4 Try.underlying34 rfl hi35' ?_) | (at_builtin; refine wpList_app rowNodes rfl _ _ rfl (Bo + 1) _ _ _ rfl (o3.alloc _) (some ⟨w3.heap.size, 0, none⟩) 1 1 (Node.cells { x with par := (-1) }) rfl (src_atN (by rw [Node.len hxok]) (Node.one _) (by simp)) (by omega) (by first | omega | (simp; omega)) ?_; intro v' w4 hown4 hgrow4 _; obtain ⟨b4, f4⟩ := cut_box HR.out q2 hgrow3 hgrow4; obtain ⟨A4, c4, rfl⟩ := own_form' hown4))
          go_roundw
          case rel =>
            have R2 := cut_next HR.out q1 q2 (by omega) hmem.out hxx.out hown3 hgrow3 hown4 hgrow4
            first | exact ⟨k + 1, _, _, by omega, by go_num, R2⟩ | (refine ⟨_, _, _, _, ⟨k + 1, _, _, by omega, ?_, R2⟩, rfl, rfl, rfl, rfl⟩; go_num)
          case measure => simp [intOf]; omega
        · have hpk := Tree.par_kept HMA.out hkn hki
          have g2 : ((k : Int) != i) = true := by simp; omega
          have g3 : ((k : Int) == i) = false := by simp; omega
          have HKI := Lib.hid hki
          by_cases hin : i ∈ Tree.line NS k
          · have hmem : Hid (i ∈ Tree.line NS k) := hin
            have hyes : decide ((Tree.nd NS k).par ∈ keptI NS i k) = true := decide_eq_true (hpk.2 hin)
            rw [hyes] at hhas
            have hnp := Tree.newPar_kept HMA.out hkn hki hin
            have hatk := HR.out.map.at_in (keptI_nodup NS i k) hpwf (hpk.2 hin)
            have HAT := Lib.hid hatk
            obtain ⟨x, hx⟩ : ∃ x, Tree.nd NS k = x := ⟨_, rfl⟩
            have HX := Lib.hid hx
            have HNP := Lib.hid hnp
            rw [hx] at hr hok hhas hi35 a32 hpwf HAT HNP
            obtain ⟨pc, hcdef⟩ : ∃ pc : Int, ((keptI NS i k).idxOf x.par : Nat) = pc := ⟨_, rfl⟩
            have hcwf : (Lit.int .i64 pc).wf = true := by
              rw [← hcdef]
              have h1 : (keptI NS i k).idxOf x.par ≤ (keptI NS i k).length := List.idxOf_le_length
              have h2 := keptI_len NS i k
              have h3 := Tree.kept_len NS i k
              exact wf_i64 (by omega) (by omega)
            have hxx : Hid ({ Tree.nd NS k with par := Tree.newPar NS i k } = ({ x with par := pc } : Node)) := by
              show _ = _
              rw [HX.out, HNP.out, ← hcdef]; rfl
            have HC := Lib.hid hcdef
            clear hx hyes hki hin hpk hnp hatk hcdef
            have hxok : Node.Ok ({ x with par := pc } : Node) := ⟨hok.1, hcwf, hok.2.2.1, hok.2.2.2⟩
            have hi35' : (Try.prog.info? 34).map (·.size) = some (Node.cells { x with par := pc }).length := by rw [Node.len hxok]; kernel_rfl
            have hl35 := Node.len hxok
            have hkl := keptI_len NS i k
            have hkle := Tree.kept_len NS i k
            rw [hkl] at hown
            have he := elemI (x := ((Tree.keptTo NS i k).length : Nat)) (wf_i64 (by omega) (by omega))
            have hkwf := wf_i64 (x := (k : Int)) (by omega) (by omega)
            have hne1 : Bo ≠ wr.heap.size := by omega
            have hne2 : wr.heap.size ≠ Bo := by omega
            have HKL := Lib.hid hkl
            have bx := ((Ext.refl wr).alloc (.cells x.cells.toArray 34)).cell hbo
            have fx := (((Ext.refl wr).alloc (.cells x.cells.toArray 34)).out.frozen (p := ⟨Bo, 0, none⟩) (lt_of_cell hbo)).trans hfo
            have rx := range_at (w := wr) (B := wr.heap.size) x.cells 34 rfl
            have hbuild : List.foldl (fun (c : Array Value) (x : Value × Nat) => c.setIfInBounds x.snd x.fst) (#[Value.int .u8 0, Value.int .u8 0, Value.int .u8 0, Value.int .u8 0, Value.int .u8 0, Value.int .u8 0, Value.int .u8 0, Value.int .u8 0, Value.int .u8 0, Value.int .u8 0, Value.int .u8 0, Value.int .u8 0, Value.int .u8 0, Value.int .u8 0, Value.int .u8 0, Value.int .u8 0, Value.int .u8 0, Value.int .u8 0, Value.int .u8 0, Value.int .u8 0, Value.int .u8 0, Value.int .u8 0, Value.int .u8 0, Value.int .u8 0, Value.int .u8 0, Value.int .u8 0, Value.int .u8 0, Value.int .u8 0, Value.int .u8 0, Value.int .u8 0, Value.int .u8 0, Value.int .u8 0, Value.int .i64 0, Value.int .u64 0, Value.int .u64 0]) (Node.cells { x with par := pc }).zipIdx = (Node.cells { x with par := pc }).toArray := fold_put0 (by rw [Node.len hxok]; rfl)
            clear hkl
            go_wp2_with (first | (refine wpList_load_mid rfl 34 _ rfl _ _ rfl x.cells _ (rangeAt_ext hr ((by repeat (first | assumption | exact Ext.refl _ | refine Ext.alloc ?_ _ | refine Ext.drew ?_ | refine Ext.drewN ?_ _ | refine Ext.setCell ?_ (by first | (simp; done) | omega | (simp; omega)) _ | refine Ext.trans (by assumption) ?_)))) Try.underlying34 rfl hi35 ?_) | (refine wpList_store_mid rfl 34 _ _ rfl _ 0 x.cells.toArray rfl rfl (there_at (by simp) _ (by rw [List.size_toArray, Node.len hok]; decide)) (by rw [List.size_toArray]; exact hi35) (all_oneCell_toArray (Node.one x)) ?_; rw [List.toList_toArray, setCells_at (by simp) (by rw [Node.len hok]; rfl)]) | (at_lookup; refine wpList_lookup_own_ok_int _ rfl _ _ 64 rfl 3 3 .i64 keyInt Try.underlying64 Try.underlying3 (zeroI _) Bm _ D rfl (hown.alloc _) _ (.int .i64 x.par) rfl (Maps.keyOf_int_mk Try.underlying3 hpwf) ?_; intro cz hc hwc; rw [hhas]; (obtain rfl : pc = cz := by { have := HAT.out.symm.trans hc; rw [HC.out] at this; simpa using this })) | (at_mapUpdate; refine wpList_mapUpdate_own _ rfl _ _ _ 64 rfl 3 3 keyInt Try.underlying64 _ Bm (Tree.keptTo NS i k).length D rfl (hown.alloc _) (by unfold maxLen; omega) _ _ (.int .i64 k) rfl rfl (Maps.keyOf_int_mk Try.underlying3 hkwf) _ [] he ?_; intro w3 hown3 hgrow3; have b3 := grown_cell hgrow3 bx (by simp; omega); have f3 := grown_free hgrow3 bx (by simp; omega) fx; have r3 := grown_range hgrow3 rx (by simp; omega); have n3 := rangeAt_head r3 (Node.at32 hok); simp only [Nat.zero_add] at n3; have nf3 : w3.frozen? ⟨wr.heap.size, 32, none⟩ = false := grown_free hgrow3 (rx 32 _ (Node.at32 hok)) (by simp; omega) (by simp); have R4 := range_set r3 (j := 32) (by rw [Node.len hok]; omega) (.int .i64 pc); rw [Node.set_par hok] at R4; have z3 : wr.heap.size + 1 ≤ w3.heap.size := (by have := hgrow3.size; rw [World.size_alloc] at this; exact this); have o3 := own_setCell' ((HR.out.own.alloc (.cells x.cells.toArray 34)).kept hgrow3 (.inr (fun e => by have := own_from HR.out.own _ e; omega))) (a := ⟨wr.heap.size, 32, none⟩) (fun e => by have := (HR.out.own.lt _ e).2; simp at this) (.int .i64 pc)) | (refine wpList_load_mid rfl 34 _ rfl _ _ rfl (Node.cells { x with par := pc }) _ R4 Try.underlying34 rfl hi35' ?_) | (at_builtin; refine wpList_app rowNodes rfl _ _ rfl (Bo + 1) _ _ _ rfl (o3.alloc _) (some ⟨w3.heap.size, 0, none⟩) 1 1 (Node.cells { x with par := pc }) rfl (src_atN (by rw [Node.len hxok]) (Node.one _) (by simp)) (by omega) (by first | omega | (simp; omega)) ?_; intro v' w4 hown4 hgrow4 _; obtain ⟨b4, f4⟩ := cut_box HR.out q2 hgrow3 hgrow4; obtain ⟨A4, c4, rfl⟩ := own_form' hown4))
            go_roundw
            case rel =>
              have R2 := cut_next HR.out q1 q2 (by omega) hmem.out hxx.out hown3 hgrow3 hown4 hgrow4
              first | exact ⟨k + 1, _, _, by omega, by go_num, R2⟩ | (refine ⟨_, _, _, _, ⟨k + 1, _, _, by omega, ?_, R2⟩, rfl, rfl, rfl, rfl⟩; go_num)
            case measure => simp [intOf]; omega
          · have hout := Lib.hid hin
            have hno : decide ((Tree.nd NS k).par ∈ keptI NS i k) = false := decide_eq_false (fun h => hin (hpk.1 h))
            rw [hno] at hhas
            obtain ⟨x, hx⟩ : ∃ x, Tree.nd NS k = x := ⟨_, rfl⟩
            have HX := Lib.hid hx
            rw [hx] at hr hok hhas hi35 a32 hpwf
            clear hx hno hki hin hpk
            go_wp2_with (first | (refine wpList_load_mid rfl 34 _ rfl _ _ rfl x.cells _ (rangeAt_ext hr ((by repeat (first | assumption | exact Ext.refl _ | refine Ext.alloc ?_ _ | refine Ext.drew ?_ | refine Ext.drewN ?_ _ | refine Ext.setCell ?_ (by first | (simp; done) | omega | (simp; omega)) _ | refine Ext.trans (by assumption) ?_)))) Try.underlying34 rfl hi35 ?_) | (refine wpList_store_mid rfl 34 _ _ rfl _ 0 x.cells.toArray rfl rfl (there_at (by simp) _ (by rw [List.size_toArray, Node.len hok]; decide)) (by rw [List.size_toArray]; exact hi35) (all_oneCell_toArray (Node.one x)) ?_; rw [List.toList_toArray, setCells_at (by simp) (by rw [Node.len hok]; rfl)]) | (at_lookup; refine wpList_lookup_own_ok_int _ rfl _ _ 64 rfl 3 3 .i64 keyInt Try.underlying64 Try.underlying3 (zeroI _) Bm _ D rfl (hown.alloc _) _ (.int .i64 x.par) rfl (Maps.keyOf_int_mk Try.underlying3 hpwf) ?_; intro c hc hwc; rw [hhas]))
            go_roundw
            case rel =>
              have R2 := cut_skip HR.out hout.out (.cells x.cells.toArray 34)
              first | exact ⟨k + 1, _, _, by omega, by go_num, R2⟩ | (refine ⟨_, _, _, _, ⟨k + 1, _, _, by omega, ?_, R2⟩, rfl, rfl, rfl, rfl⟩; go_num)
            case measure => simp [intOf]; omega
      · have e : k = n := by omega
        subst e
        have hbo := R.box
        have hc1 := R.ext.cell C1.out
        have hf1 := (R.ext.out.frozen (p := ⟨w.heap.size + 1, 0, none⟩) (lt_of_cell C1.out)).trans F1.out
        obtain ⟨A', c', rfl⟩ := own_form' R.own
        have hne : w.heap.size + 1 ≠ Bo := by have := lt_of_cell C1.out; omega
        have hkl := Tree.kept_len NS i k
        have HR := Lib.hid R
        clear R
        go_wp2
        have hnl := NL.own HR.out.own (by omega) (by rw [Tree.cut_len]) (cutTo_ok HOK.out (by rw [HLE.out]; exact h12) i k (by rw [HLE.out]; exact Nat.le_refl _))
        obtain ⟨A3, c3, e3, hnl, hf3⟩ := hnl
        obtain ⟨rfl, rfl⟩ : A' = A3 ∧ c' = c3 := by simpa using e3
        have hne2 : w.heap.size + 1 < Bo := by have := lt_of_cell C1.out; omega
        refine bodyPost_ret (v := .agg #[.slice A' (Tree.keptTo NS i k).length c']) (by simp (maxDischargeDepth := 7) [results, Try.results15, go_sem, hc1, hf1]) rfl ⟨⟨_, _, _, rfl, ?_⟩, (k1.trans HR.out.ext).setCell (by show w.heap.size ≤ w.heap.size + 1; omega) _⟩
        exact hnl.setCell (p := ⟨w.heap.size + 1, 0, none⟩) (fun ad e => by have := hf3 ad e; show ad.block ≠ w.heap.size + 1; omega) _
end Go.Proofs.Ytoifhpcpahfddaa
