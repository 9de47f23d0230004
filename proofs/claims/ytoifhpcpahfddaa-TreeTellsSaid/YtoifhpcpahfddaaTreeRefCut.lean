/- The document's answer of layer 6: Cut. -/
import Derived.Test.YtoifhpcpahfddaaTreeRefPut
namespace Go.Proofs.Ytoifhpcpahfddaa
open Go.RowKit Go.WideShapes Go.ChangeShapes
set_option linter.unusedVariables false
set_option linter.unusedSimpArgs false





/-- The place of the parent, as far as one has looked. -/
def parTo (K : List Int) (p : Int) (ne : Bool) (j : Nat) : Int := if ne = true ∧ p ∈ K.take j then (K.idxOf p : Nat) else -1
theorem parTo_zero (K : List Int) (p : Int) (ne : Bool) : parTo K p ne 0 = -1 := by unfold parTo; simp
theorem parTo_hit {K : List Int} {p : Int} {j : Nat} (hn : K.Nodup) (hj : j < K.length) (h : nth K j = p) : parTo K p true (j + 1) = j := by
  rw [nth_eq hj] at h
  subst h
  unfold parTo
  have h1 : K[j] ∈ K.take (j + 1) := by rw [take_succ' hj]; exact List.mem_append_right _ (List.mem_singleton.2 rfl)
  rw [if_pos ⟨rfl, h1⟩, hn.idxOf_getElem]
theorem parTo_miss {K : List Int} {p : Int} {ne : Bool} {j : Nat} (hj : j < K.length) (h : ne = false ∨ nth K j ≠ p) : parTo K p ne (j + 1) = parTo K p ne j := by
  unfold parTo
  rcases h with rfl | h
  · simp
  · have : (p ∈ K.take (j + 1)) = (p ∈ K.take j) := by
      rw [take_nth hj, List.mem_append, List.mem_singleton]
      exact propext ⟨fun g => g.elim id (fun g => absurd g.symm h), .inl⟩
    simp only [this]
theorem parTo_all (K : List Int) (p : Int) (ne : Bool) : parTo K p ne K.length = if ne = true ∧ p ∈ K then ((K.idxOf p : Nat) : Int) else -1 := by unfold parTo; rw [List.take_length]
theorem parTo_new {T : List Node} (hm : Tree.mayV T = true) {i k : Nat} (hk : k < T.length) (h : i ∈ Tree.line T k) : parTo (keptI T i k) (Tree.nd T k).par (decide (k ≠ i)) (keptI T i k).length = Tree.newPar T i k := by
  rw [parTo_all]
  by_cases e : k = i
  · subst e
    unfold Tree.newPar
    simp
  · rw [Tree.newPar_kept hm hk e h, if_pos ⟨by simpa using e, (Tree.par_kept hm hk e).2 h⟩]
    rfl
/-- What holds between two rounds. -/
structure RCut (w wr : World) (base : Nat) (A : Option Addr) (n c : Nat) (p : Value) (K : List Int) (v : Value) (L : List Node) : Prop where
  ext : Ext w wr
  low : w.heap.size + 1 + 1 < base
  big : base ≤ wr.heap.size
  ownp : wr.ownsRow base 3 1 p K.length (K.map (Value.int .i64))
  own : wr.ownsRow base 34 35 v L.length (flatN L)
  apart : ∀ g, p.ownBlock = some g → v.ownBlock ≠ some g
  t0 : wr.cell? ⟨w.heap.size, 0, none⟩ = some (.slice A n c)
  c4 : wr.cell? ⟨w.heap.size + 1, 0, none⟩ = some (.slice none 0 0)
  f4 : wr.frozen? ⟨w.heap.size + 1, 0, none⟩ = false
  box : wr.cell? ⟨w.heap.size + 1 + 1, 0, none⟩ = some v
  free : wr.frozen? ⟨w.heap.size + 1 + 1, 0, none⟩ = false
namespace RCut
variable {w wr W : World} {base : Nat} {A : Option Addr} {n c : Nat} {p p' : Value} {K : List Int} {v v' : Value} {L : List Node}
theorem grow (R : RCut w wr base A n c p K v L) (hx : Ext wr W) : RCut w W base A n c p K v L :=
  ⟨R.ext.trans hx, R.low, Nat.le_trans R.big hx.size, own_ext R.ownp hx, own_ext R.own hx, R.apart, hx.cell R.t0, hx.cell R.c4, (hx.out.frozen (p := ⟨w.heap.size + 1, 0, none⟩) (lt_of_cell R.c4)).trans R.f4, hx.cell R.box, (hx.out.frozen (p := ⟨w.heap.size + 1 + 1, 0, none⟩) (lt_of_cell R.box)).trans R.free⟩
theorem setX (R : RCut w wr base A n c p K v L) {X : Nat} (hX : base ≤ X) (hp : p.ownBlock ≠ some X) (hv : v.ownBlock ≠ some X) (o : Nat) (u : Value) : RCut w (wr.setCell ⟨X, o, none⟩ u) base A n c p K v L := by
  have hl := R.low
  have hne : ∀ {B : Nat} {q : Nat}, B < base → (⟨X, o, none⟩ : Addr) ≠ ⟨B, q, none⟩ := fun {B q} h e => by have := congrArg Addr.block e; simp at this; omega
  refine ⟨R.ext.setCell (p := ⟨X, o, none⟩) (by show w.heap.size ≤ X; omega) _, hl, by rw [World.size_setCell]; exact R.big, own_setCell' R.ownp hp u, own_setCell' R.own hv u, R.apart, ?_, ?_, by rw [World.frozen?_setCell]; exact R.f4, ?_, by rw [World.frozen?_setCell]; exact R.free⟩
  · exact (World.cell?_setCell_other _ _ _ _ (hne (by omega))).trans R.t0
  · exact (World.cell?_setCell_other _ _ _ _ (hne (by omega))).trans R.c4
  · exact (World.cell?_setCell_other _ _ _ _ (hne (by omega))).trans R.box
theorem pushP (R : RCut w wr base A n c p K v L) {k : Int} {o : Obj} (hown : W.ownsRow base 3 1 p' (K.length + 1) (K.map (Value.int .i64) ++ [.int .i64 k])) (hg : (wr.alloc o).grownBy W p.ownBlock) (hat : p'.ownBlock = p.ownBlock ∨ p'.ownBlock = some (wr.alloc o).heap.size) : RCut w W base A n c p' (K ++ [k]) v L := by
  have hl := R.low
  have hb := R.big
  have ka : Ext wr (wr.alloc o) := (Ext.refl _).alloc o
  have hsz := hg.size
  simp at hsz
  have hne : ∀ {B : Nat}, B < base → p.ownBlock ≠ some B := fun {B} h e => by have := own_from R.ownp B e; omega
  refine ⟨(R.ext.alloc o).grown hg (fun j e => by have := own_from R.ownp j e; omega), hl, by omega, by simpa using hown, (R.own.alloc o).kept hg ?_, ?_, ?_, ?_, ?_, ?_, ?_⟩
  · cases hv : v.ownBlock with
    | none => exact .inl rfl
    | some g => exact .inr (fun e => R.apart g e.symm hv)
  · intro g hg'
    rcases hat with h | h
    · exact R.apart g (by rw [← h]; exact hg')
    · rw [h] at hg'
      obtain rfl := Option.some.inj hg'
      intro e'
      have := (R.own.lt _ e').2
      have h5 : (wr.alloc o).heap.size = wr.heap.size + 1 := by simp
      omega
  · exact grown_cell hg (ka.cell R.t0) (hne (by omega))
  · exact grown_cell hg (ka.cell R.c4) (hne (by omega))
  · exact grown_free hg (ka.cell R.c4) (hne (by omega)) ((ka.out.frozen (p := ⟨w.heap.size + 1, 0, none⟩) (lt_of_cell R.c4)).trans R.f4)
  · exact grown_cell hg (ka.cell R.box) (hne (by omega))
  · exact grown_free hg (ka.cell R.box) (hne (by omega)) ((ka.out.frozen (p := ⟨w.heap.size + 1 + 1, 0, none⟩) (lt_of_cell R.box)).trans R.free)
theorem boxV (R : RCut w wr base A n c p K v L) {o : Obj} (hg : (wr.alloc o).grownBy W v.ownBlock) : W.cell? ⟨w.heap.size + 1 + 1, 0, none⟩ = some v ∧ W.frozen? ⟨w.heap.size + 1 + 1, 0, none⟩ = false := by
  have hl := R.low
  have ka : Ext wr (wr.alloc o) := (Ext.refl _).alloc o
  have hne : v.ownBlock ≠ some (w.heap.size + 1 + 1) := fun e => by have := own_from R.own _ e; omega
  exact ⟨grown_cell hg (ka.cell R.box) hne, grown_free hg (ka.cell R.box) hne ((ka.out.frozen (p := ⟨w.heap.size + 1 + 1, 0, none⟩) (lt_of_cell R.box)).trans R.free)⟩
theorem pushV (R : RCut w wr base A n c p K v L) {x : Node} {o : Obj} (hown : W.ownsRow base 34 35 v' (L.length + 1) (flatN L ++ x.cells)) (hg : (wr.alloc o).grownBy W v.ownBlock) (hat : v'.ownBlock = v.ownBlock ∨ v'.ownBlock = some (wr.alloc o).heap.size) : RCut w (W.setCell ⟨w.heap.size + 1 + 1, 0, none⟩ v') base A n c p K v' (L ++ [x]) := by
  have hl := R.low
  have hb := R.big
  have ka : Ext wr (wr.alloc o) := (Ext.refl _).alloc o
  have hsz := hg.size
  simp at hsz
  have hne : ∀ {B : Nat}, B < base → v.ownBlock ≠ some B := fun {B} h e => by have := own_from R.own B e; omega
  obtain ⟨b5, f5⟩ := R.boxV hg
  refine ⟨((R.ext.alloc o).grown hg (fun j e => by have := own_from R.own j e; omega)).setCell (p := ⟨w.heap.size + 1 + 1, 0, none⟩) (by show w.heap.size ≤ w.heap.size + 1 + 1; omega) _, hl, by rw [World.size_setCell]; omega, own_setCell ((R.ownp.alloc o).kept hg ?_) hl _, own_setCell (by rw [flatN_snoc]; simpa using hown) hl _, ?_, ?_, ?_, ?_, ?_, by rw [World.frozen?_setCell]; exact f5⟩
  · cases hv : p.ownBlock with
    | none => exact .inl rfl
    | some g => exact .inr (fun e => R.apart g hv e.symm)
  · intro g hg'
    rcases hat with h | h
    · rw [h]; exact R.apart g hg'
    · rw [h]
      intro e'
      obtain rfl := Option.some.inj e'
      have := (R.ownp.lt _ hg').2
      have h5 : (wr.alloc o).heap.size = wr.heap.size + 1 := by simp
      omega
  · exact (World.cell?_setCell_other _ _ _ _ (by simp)).trans (grown_cell hg (ka.cell R.t0) (hne (by omega)))
  · exact (World.cell?_setCell_other _ _ _ _ (by simp)).trans (grown_cell hg (ka.cell R.c4) (hne (by omega)))
  · rw [World.frozen?_setCell]
    exact grown_free hg (ka.cell R.c4) (hne (by omega)) ((ka.out.frozen (p := ⟨w.heap.size + 1, 0, none⟩) (lt_of_cell R.c4)).trans R.f4)
  · exact World.cell?_setCell_same' _ _ _ (by rw [b5]; rfl)
end RCut
theorem src_atI {w : World} {B : Nat} {k : Nat} (hB : B = w.heap.size) : Src (w.alloc (.cells #[.int .i64 (k : Nat)] 3)) 1 (some ⟨B, 0, none⟩) 1 1 [.int .i64 (k : Nat)] := by
  subst hB
  exact src_at rfl (by simp)
set_option maxRecDepth 100000 in
set_option maxHeartbeats 4000000 in
theorem rcut_any (A : Option Addr) (n c : Nat) (NS : List Node) (i : Int) (w : World) (h : NL w A n c NS) :
    Calls Try.prog 24 #[.agg #[.slice A n c], .int .i64 i] w fun e w' => (∃ A2 m c2, e = .returned (.agg #[.slice A2 m c2]) ∧ NL w' A2 m c2 (Tree.cutV NS i)) ∧ Ext w w' := by
  have hlen := h.len
  have hroom := h.row.room
  have HV := Lib.hid (fun W (k : Ext w W) => h.ext k)
  have HOK := Lib.hid (fun j => h.okAt j)
  have HI := Lib.hid (fun W (kx : Ext w W) => ris_any A n c NS i W (h.ext kx))
  have HAB := Lib.hid (fun k b (hb : Tree.aboveV NS i k = b) W (kx : Ext w W) => rabove_is A n c NS i k b hb W (h.ext kx))
  clear h
  obtain ⟨q, hq⟩ : ∃ q, Tree.isV NS i = q := ⟨_, rfl⟩
  rw [hq] at HI
  cases q with
  | false =>
    have e : Tree.cutV NS i = [] := by unfold Tree.cutV; rw [hq]; rfl
    rw [e]
    clear hq e HAB HOK
    go_enter Try.func24, Try.ntmps24
    go_wp2_with fail
    refine (HI.out _ ((by repeat (first | assumption | exact Ext.refl _ | refine Ext.alloc ?_ _ | refine Ext.drew ?_ | refine Ext.drewN ?_ _ | refine Ext.setCell ?_ (by first | (simp; done) | omega | (simp; omega)) _ | refine Ext.trans (by assumption) ?_)))).mono ?_
    rintro e w1 ⟨rfl, hx1⟩
    have k1 : Ext w w1 := Ext.trans ((by repeat (first | assumption | exact Ext.refl _ | refine Ext.alloc ?_ _ | refine Ext.drew ?_ | refine Ext.drewN ?_ _ | refine Ext.setCell ?_ (by first | (simp; done) | omega | (simp; omega)) _ | refine Ext.trans (by assumption) ?_))) hx1
    have t0 : w1.cell? ⟨w.heap.size, 0, none⟩ = some (.slice A n c) := hx1.cell (by simp (maxDischargeDepth := 7) [go_sem])
    have c4 : w1.cell? ⟨w.heap.size + 1, 0, none⟩ = some (.slice none 0 0) := hx1.cell (by simp (maxDischargeDepth := 7) [go_sem])
    have f4 : w1.frozen? ⟨w.heap.size + 1, 0, none⟩ = false := (hx1.out.frozen (p := ⟨w.heap.size + 1, 0, none⟩) (by simp)).trans (by simp (maxDischargeDepth := 7) [go_sem])
    have c5 : w1.cell? ⟨w.heap.size + 1 + 1, 0, none⟩ = some (.slice none 0 0) := hx1.cell (by simp (maxDischargeDepth := 7) [go_sem])
    have f5 : w1.frozen? ⟨w.heap.size + 1 + 1, 0, none⟩ = false := (hx1.out.frozen (p := ⟨w.heap.size + 1 + 1, 0, none⟩) (by simp)).trans (by simp (maxDischargeDepth := 7) [go_sem])
    have l4 := lt_of_cell c4
    have l5 := lt_of_cell c5
    go_wp2
    go_loopw [7, 8, 9, 10, 11, 12] (fun p k' _ _ _ _ wr => p = .slice none 0 0 ∧ k' = .int .i64 0 ∧ wr = w1) (fun _ _ _ _ _ _ _ => 0)
    case atStart => exact ⟨rfl, rfl, rfl⟩
    case round =>
      obtain ⟨rfl, rfl, rfl⟩ := hrel
      by_cases hn0 : 0 < n
      · have g1 : (0 : Int) < n := by omega
        go_wp2
        exact bodyPost_ret (v := .agg #[.slice none 0 0]) (by simp (maxDischargeDepth := 7) [results, Try.results24, go_sem, c4, f4]) rfl ⟨⟨none, 0, 0, rfl, NL.nil_mk _⟩, k1.setCell (by show w.heap.size ≤ w.heap.size + 1; omega) _⟩
      · have g1 : ¬ (0 : Int) < n := by omega
        go_wp2
        exact bodyPost_ret (v := .agg #[.slice none 0 0]) (by simp (maxDischargeDepth := 7) [results, Try.results24, go_sem, c4, f4]) rfl ⟨⟨none, 0, 0, rfl, NL.nil_mk _⟩, k1.setCell (by show w.heap.size ≤ w.heap.size + 1; omega) _⟩
  | true =>
    have hv : Tree.mayV NS = true ∧ (0 ≤ i ∧ i < n) := by
      unfold Tree.isV at hq
      rw [hlen] at hq
      simp at hq
      exact hq
    obtain ⟨hm, i1, i2⟩ := hv
    obtain ⟨i, rfl⟩ := Int.eq_ofNat_of_zero_le i1
    have e : Tree.cutV NS (i : Int) = Tree.cutTo NS i n := by unfold Tree.cutV; rw [hq, if_pos rfl, hlen]; rfl
    rw [e]
    have h12 := Tree.len_le hm
    rw [hlen] at h12
    have HMA := Lib.hid hm
    have HLE := Lib.hid hlen
    clear hq e i1 hm hlen
    go_enter Try.func24, Try.ntmps24
    go_wp2_with fail
    refine (HI.out _ ((by repeat (first | assumption | exact Ext.refl _ | refine Ext.alloc ?_ _ | refine Ext.drew ?_ | refine Ext.drewN ?_ _ | refine Ext.setCell ?_ (by first | (simp; done) | omega | (simp; omega)) _ | refine Ext.trans (by assumption) ?_)))).mono ?_
    rintro e w1 ⟨rfl, hx1⟩
    have k1 : Ext w w1 := Ext.trans ((by repeat (first | assumption | exact Ext.refl _ | refine Ext.alloc ?_ _ | refine Ext.drew ?_ | refine Ext.drewN ?_ _ | refine Ext.setCell ?_ (by first | (simp; done) | omega | (simp; omega)) _ | refine Ext.trans (by assumption) ?_))) hx1
    have t0 : w1.cell? ⟨w.heap.size, 0, none⟩ = some (.slice A n c) := hx1.cell (by simp (maxDischargeDepth := 7) [go_sem])
    have c4 : w1.cell? ⟨w.heap.size + 1, 0, none⟩ = some (.slice none 0 0) := hx1.cell (by simp (maxDischargeDepth := 7) [go_sem])
    have f4 : w1.frozen? ⟨w.heap.size + 1, 0, none⟩ = false := (hx1.out.frozen (p := ⟨w.heap.size + 1, 0, none⟩) (by simp)).trans (by simp (maxDischargeDepth := 7) [go_sem])
    have c5 : w1.cell? ⟨w.heap.size + 1 + 1, 0, none⟩ = some (.slice none 0 0) := hx1.cell (by simp (maxDischargeDepth := 7) [go_sem])
    have f5 : w1.frozen? ⟨w.heap.size + 1 + 1, 0, none⟩ = false := (hx1.out.frozen (p := ⟨w.heap.size + 1 + 1, 0, none⟩) (by simp)).trans (by simp (maxDischargeDepth := 7) [go_sem])
    have l4 := lt_of_cell c4
    have l5 := lt_of_cell c5
    have R0 : RCut w w1 w1.heap.size A n c (.slice none 0 0) (keptI NS i 0) (.slice none 0 0) (Tree.cutTo NS i 0) :=
      ⟨k1, l5, Nat.le_refl _, World.ownsRow_nil _ _ _ _, World.ownsRow_nil _ _ _ _, (fun g e => by cases e), t0, c4, f4, c5, f5⟩
    go_wp2
    obtain ⟨base, hbase⟩ : ∃ b, w1.heap.size = b := ⟨_, rfl⟩
    rw [hbase] at R0
    clear t0 c4 f4 c5 f5 l4 l5 hx1 hbase
    go_loopw [7, 8, 9, 10, 11, 12] (fun p k' _ _ _ _ wr => ∃ (k : Nat) (v : Value), k ≤ n ∧ k' = .int .i64 k ∧ RCut w wr base A n c p (keptI NS i k) v (Tree.cutTo NS i k)) (fun _ k' _ _ _ _ _ => n - (intOf k').toNat)
    case atStart => exact ⟨0, _, Nat.zero_le _, rfl, R0⟩
    case round =>
      obtain ⟨k, v, hk, rfl, R⟩ := hrel
      clear R0
      have t0 := R.t0
      have c4 := R.c4
      have f4 := R.f4
      have b0 := R.box
      have b1 := R.free
      have HR := Lib.hid R
      clear R
      by_cases hlt : k < n
      · have hb : Tree.aboveV NS (i : Int) (k : Int) = decide (i ∈ Tree.line NS k) := Tree.above_eq HMA.out (by rw [HLE.out]; omega) (by rw [HLE.out]; omega)
        have g1 : (k : Int) < n := by omega
        by_cases hin : i ∈ Tree.line NS k
        · rw [decide_eq_true hin] at hb
          have HA := Lib.hid (HAB.out (k : Int) true hb)
          have hmem := Lib.hid hin
          obtain ⟨PA, pc, rfl⟩ := own_form' HR.out.ownp
          obtain ⟨VA, vc, rfl⟩ := own_form' HR.out.own
          clear hb hin
          go_wp2_with fail
          refine (HA.out _ HR.out.ext).mono ?_
          rintro e w2 ⟨rfl, hx2⟩
          have R2 := HR.out.grow hx2
          obtain ⟨b, off, rfl, hr, hok⟩ := (HV.out w2 R2.ext).at' hlt
          change w2.rangeAt _ _ (Tree.nd NS k).cells at hr
          replace hok : (Tree.nd NS k).Ok := hok
          have HNP := Lib.hid (parTo_new (T := NS) (i := i) (k := k) HMA.out (by rw [HLE.out]; exact hlt) hmem.out)
          have HKS : Hid (keptI NS i (k + 1) = keptI NS i k ++ [(k : Int)]) := by show _ = _; unfold keptI; rw [Tree.kept_yes hmem.out, List.map_append]; rfl
          have HCS := Lib.hid (Tree.cut_yes (T := NS) (i := i) (k := k) hmem.out)
          have hkd := keptI_nodup NS i k
          have hkl : (keptI NS i k).length ≤ k := by rw [keptI_len]; exact Tree.kept_len NS i k
          have hcl : (Tree.cutTo NS i k).length ≤ k := by rw [Tree.cut_len]; exact Tree.kept_len NS i k
          have hkw : ∀ x ∈ keptI NS i k, (Lit.int .i64 x).wf = true := fun x hx => by
            unfold keptI at hx
            obtain ⟨j, hj, rfl⟩ := List.mem_map.1 hx
            have := (Tree.mem_kept.1 hj).1
            exact wf_i64 (by omega) (by omega)
          obtain ⟨x, hx⟩ : ∃ x, Tree.nd NS k = x := ⟨_, rfl⟩
          rw [hx] at hr hok HNP
          have HNX := Lib.hid hx
          generalize keptI NS i k = K at *
          generalize Tree.cutTo NS i k = L at *
          have hi35 : (Try.prog.info? 34).map (·.size) = some x.cells.length := by rw [Node.len hok]; kernel_rfl
          have t2 := R2.t0
          have c2 := R2.c4
          have f2 := R2.f4
          have b2 := R2.box
          have fb2 := R2.free
          clear t0 c4 f4 b0 b1 hx HR HA
          have R3 := R2.grow ((Ext.refl w2).alloc (.cells x.cells.toArray 34))
          have rx := range_at (w := w2) (B := w2.heap.size) x.cells 34 rfl
          have fx : (w2.alloc (.cells x.cells.toArray 34)).frozen? ⟨w2.heap.size, 32, none⟩ = false := by simp
          have hpX : (Value.slice PA K.length pc).ownBlock ≠ some w2.heap.size := fun e => by have := (R2.ownp.lt _ e).2; omega
          have hvX : (Value.slice VA L.length vc).ownBlock ≠ some w2.heap.size := fun e => by have := (R2.own.lt _ e).2; omega
          have hXb := R2.big
          have HR3 := Lib.hid (And.intro R3 (And.intro rx (And.intro fx (And.intro hpX hvX))))
          clear R3 rx fx hpX hvX R2
          go_wp2_with (first | (refine wpList_load_mid rfl 34 _ rfl _ _ rfl x.cells _ (rangeAt_ext hr ((by repeat (first | assumption | exact Ext.refl _ | refine Ext.alloc ?_ _ | refine Ext.drew ?_ | refine Ext.drewN ?_ _ | refine Ext.setCell ?_ (by first | (simp; done) | omega | (simp; omega)) _ | refine Ext.trans (by assumption) ?_)))) Try.underlying34 rfl hi35 ?_) | (refine wpList_store_mid rfl 34 _ _ rfl _ 0 x.cells.toArray rfl rfl (there_at (by simp) _ (by rw [List.size_toArray, Node.len hok]; decide)) (by rw [List.size_toArray]; exact hi35) (all_oneCell_toArray (Node.one x)) ?_; rw [List.toList_toArray, setCells_at (by simp) (by rw [Node.len hok]; rfl)]))
          obtain ⟨R3, rx, fx, hpX, hvX⟩ := HR3.out
          have D32 := Lib.hid (rangeAt_head rx (Node.at32 hok))
          have HFX := Lib.hid fx
          have HRX := Lib.hid rx
          have HR3' := Lib.hid R3
          have HPX := Lib.hid hpX
          have HVX := Lib.hid hvX
          have d3l : w2.heap.size < (w2.alloc (.cells x.cells.toArray 34)).heap.size := by simp
          clear HR3 rx fx hpX hvX R3 hr t2 c2 f2 b2 fb2 hx2
          generalize (w2.alloc (.cells x.cells.toArray 34)) = w3 at *
          generalize w2.heap.size = X at *
          have hP0 := parTo_zero K x.par (decide (k ≠ i))
          go_loopw [11, 12] (fun q j' wi => ∃ j : Nat, j ≤ K.length ∧ j' = .int .i64 j ∧ q = .int .i64 (parTo K x.par (decide (k ≠ i)) j) ∧ Ext w3 wi) (fun _ j' _ => K.length - (intOf j').toNat)
          case atStart => exact ⟨0, Nat.zero_le _, rfl, by rw [hP0], Ext.refl _⟩
          case round =>
            clear hP0
            obtain ⟨j, hj, rfl, rfl, hxi⟩ := hrel
            have Ri := HR3'.out.grow hxi
            have d32 := hxi.cell D32.out
            simp only [Nat.zero_add] at d32
            have dl := lt_of_cell d32
            have df := (hxi.out.frozen (p := ⟨X, 32, none⟩) d3l).trans HFX.out
            by_cases hjm : j < K.length
            · obtain ⟨A', n', c', e', hI⟩ := isInts_own Ri.ownp (by omega) hkw
              obtain ⟨rfl, rfl, rfl⟩ : PA = A' ∧ K.length = n' ∧ pc = c' := by simpa using e'
              obtain ⟨bl, ol, rfl, hcs⟩ := hI.cells (by omega)
              have dx := hcs j hjm
              have gj : (j : Int) < K.length := by omega
              have HT := Lib.hid (fun h1 h2 => parTo_hit (K := K) (p := x.par) (j := j) h1 hjm h2)
              have HN := Lib.hid (fun h => parTo_miss (K := K) (p := x.par) (ne := decide (k ≠ i)) (j := j) hjm h)
              generalize nth K j = y at *
              clear hI hcs e' Ri
              by_cases hy : y = x.par
              · have gy : (y == x.par) = true := by simp [hy]
                by_cases hki : k = i
                · have gk : ((k : Int) != i) = false := by simp; omega
                  have H1 : Hid (parTo K x.par (decide (k ≠ i)) (j + 1) = parTo K x.par (decide (k ≠ i)) j) := HN.out (.inl (by simp [hki]))
                  clear hy hki
                  go_wp2
                  refine wp_region_quiet_lit (by kernel_rfl) (by kernel_rfl) ?_
                  repeat (first | go_big_quiet_skip | (go_big_quiet_want; first | ((fail); (try simp only [Act.put, List.setIfInBounds_toArray, List.set_cons_zero, List.set_cons_succ]); go_big_quiet_on) | (go_big_quiet_op; first | go_big_quiet_on | go_big_quiet_call (fail))))
                  refine wpQuiet_nil ?_
                  intro _ hw'
                  obtain ⟨nq', hw''⟩ := hw'
                  subst hw''
                  go_wp2
                  go_roundw
                  case rel =>
                    have E' : Value.int .i64 (parTo K x.par (decide (k ≠ i)) j) = .int .i64 (parTo K x.par (decide (k ≠ i)) (j + 1)) := by rw [H1.out]
                    first | exact ⟨j + 1, by omega, by go_num, E', hxi.drewN _⟩ | (refine ⟨_, _, ⟨j + 1, by omega, ?_, E', hxi.drewN _⟩, rfl, rfl⟩; go_num)
                  case measure => simp [intOf]; omega
                · have gk : ((k : Int) != i) = true := by simp; omega
                  have H1 : Hid (parTo K x.par (decide (k ≠ i)) (j + 1) = (j : Nat)) := by
                    show _ = _
                    rw [decide_eq_true hki]
                    exact HT.out hkd hy
                  clear hy hki
                  go_wp2
                  refine wp_region_quiet_lit (by kernel_rfl) (by kernel_rfl) ?_
                  repeat (first | go_big_quiet_skip | (go_big_quiet_want; first | ((fail); (try simp only [Act.put, List.setIfInBounds_toArray, List.set_cons_zero, List.set_cons_succ]); go_big_quiet_on) | (go_big_quiet_op; first | go_big_quiet_on | go_big_quiet_call (fail))))
                  refine wpQuiet_nil ?_
                  intro _ hw'
                  obtain ⟨nq', hw''⟩ := hw'
                  subst hw''
                  go_wp2
                  go_roundw
                  case rel =>
                    have E' : Value.int .i64 (j : Nat) = .int .i64 (parTo K x.par (decide (k ≠ i)) (j + 1)) := by rw [H1.out]
                    first | exact ⟨j + 1, by omega, by go_num, E', hxi.drewN _⟩ | (refine ⟨_, _, ⟨j + 1, by omega, ?_, E', hxi.drewN _⟩, rfl, rfl⟩; go_num)
                  case measure => simp [intOf]; omega
              · have gy : (y == x.par) = false := by simp [hy]
                have H1 : Hid (parTo K x.par (decide (k ≠ i)) (j + 1) = parTo K x.par (decide (k ≠ i)) j) := HN.out (.inr hy)
                clear hy
                go_wp2
                refine wp_region_quiet_lit (by kernel_rfl) (by kernel_rfl) ?_
                repeat (first | go_big_quiet_skip | (go_big_quiet_want; first | ((fail); (try simp only [Act.put, List.setIfInBounds_toArray, List.set_cons_zero, List.set_cons_succ]); go_big_quiet_on) | (go_big_quiet_op; first | go_big_quiet_on | go_big_quiet_call (fail))))
                refine wpQuiet_nil ?_
                intro _ hw'
                obtain ⟨nq', hw''⟩ := hw'
                subst hw''
                go_wp2
                go_roundw
                case rel =>
                  have E' : Value.int .i64 (parTo K x.par (decide (k ≠ i)) j) = .int .i64 (parTo K x.par (decide (k ≠ i)) (j + 1)) := by rw [H1.out]
                  first | exact ⟨j + 1, by omega, by go_num, E', hxi.drewN _⟩ | (refine ⟨_, _, ⟨j + 1, by omega, ?_, E', hxi.drewN _⟩, rfl, rfl⟩; go_num)
                case measure => simp [intOf]; omega
            · have e : j = K.length := by omega
              subst e
              rw [HNP.out]
              obtain ⟨pv, hpv⟩ : ∃ pv, Tree.newPar NS i k = pv := ⟨_, rfl⟩
              have hcwf : (Lit.int .i64 pv).wf = true := by
                rw [← hpv, ← HNP.out, parTo_all]
                split
                · have : K.idxOf x.par ≤ K.length := List.idxOf_le_length
                  exact wf_i64 (by omega) (by omega)
                · decide
              rw [hpv] at HCS ⊢
              have hxok : Node.Ok ({ x with par := pv } : Node) := ⟨hok.1, hcwf, hok.2.2.1, hok.2.2.2⟩
              have hxe : Hid ({ Tree.nd NS k with par := pv } = ({ x with par := pv } : Node)) := by show _ = _; rw [HNX.out]
              rw [hxe.out] at HCS
              have hi35' : (Try.prog.info? 34).map (·.size) = some (Node.cells { x with par := pv }).length := by rw [Node.len hxok]; kernel_rfl
              have hbuild : List.foldl (fun (c : Array Value) (x : Value × Nat) => c.setIfInBounds x.snd x.fst) (#[Value.int .u8 0, Value.int .u8 0, Value.int .u8 0, Value.int .u8 0, Value.int .u8 0, Value.int .u8 0, Value.int .u8 0, Value.int .u8 0, Value.int .u8 0, Value.int .u8 0, Value.int .u8 0, Value.int .u8 0, Value.int .u8 0, Value.int .u8 0, Value.int .u8 0, Value.int .u8 0, Value.int .u8 0, Value.int .u8 0, Value.int .u8 0, Value.int .u8 0, Value.int .u8 0, Value.int .u8 0, Value.int .u8 0, Value.int .u8 0, Value.int .u8 0, Value.int .u8 0, Value.int .u8 0, Value.int .u8 0, Value.int .u8 0, Value.int .u8 0, Value.int .u8 0, Value.int .u8 0, Value.int .i64 0, Value.int .u64 0, Value.int .u64 0]) (Node.cells { x with par := pv }).zipIdx = (Node.cells { x with par := pv }).toArray := fold_put0 (by rw [Node.len hxok]; rfl)
              have RX := Ri.setX (X := X) hXb HPX.out HVX.out 32 (.int .i64 pv)
              have r4 := range_set (rangeAt_ext HRX.out hxi) (j := 32) (by rw [Node.len hok]; omega) (.int .i64 pv)
              rw [Node.set_par hok] at r4
              have hxl := Node.len hxok
              have hx1' := Node.one ({ x with par := pv } : Node)
              obtain ⟨y, hy⟩ : ∃ y, ({ x with par := pv } : Node) = y := ⟨_, rfl⟩
              rw [hy] at hi35' hbuild r4 HCS hxl hx1'
              have kX : (wr.setCell ⟨X, 32, none⟩ (.int .i64 pv)).heap.size = wr.heap.size := World.size_setCell _ _ _
              have hbg := RX.big
              have HRX4 := Lib.hid RX
              clear Ri RX hpv hcwf hxe HNP HNX hxok hok hi35 hkd HRX HVX HR3' hy
              go_wp2_with (first | (at_builtin; refine wpList_app rowInts rfl _ _ rfl base _ _ _ rfl (HRX4.out.ownp.alloc _) (some ⟨wr.heap.size, 0, none⟩) 1 1 [.int .i64 k] rfl (src_atI (by rw [kX])) (by omega) (by rw [World.size_alloc]; omega) ?_; intro p5 w5 hown5 hgrow5 hat5; have R5 := HRX4.out.pushP hown5 hgrow5 hat5; have r5 := grown_range hgrow5 (rangeAt_ext r4 ((Ext.refl _).alloc _)) HPX.out; have b5 := R5.box; have fb5 := R5.free; have g5 := R5.big; have HR5 := Lib.hid R5; clear R5 hgrow5 hat5 hown5) | (refine wpList_load_mid rfl 34 _ rfl _ _ rfl y.cells _ r5 Try.underlying34 rfl hi35' ?_) | (at_builtin; refine wpList_app rowNodes rfl _ _ rfl base _ _ _ rfl (HR5.out.own.alloc _) (some ⟨w5.heap.size, 0, none⟩) 1 1 y.cells rfl (src_atN (by rw [hxl]) hx1' rfl) (by omega) (by rw [World.size_alloc]; omega) ?_; intro v6 w6 hown6 hgrow6 hat6; obtain ⟨b6, f6⟩ := HR5.out.boxV hgrow6; have R6 := HR5.out.pushV hown6 hgrow6 hat6; obtain ⟨A6, c6, rfl⟩ := own_form' hown6; have HR6 := Lib.hid R6; clear R6 hown6 hgrow6 hat6))
              go_roundw
              case rel =>
                have R7 := HR6.out
                rw [← HKS.out, ← HCS.out] at R7
                first | exact ⟨k + 1, _, by omega, by go_num, R7⟩ | (refine ⟨_, _, _, _, _, _, ⟨k + 1, _, by omega, ?_, R7⟩, rfl, rfl, rfl, rfl, rfl, rfl⟩; go_num)
              case measure => simp [intOf]; omega
        · rw [decide_eq_false hin] at hb
          have HA := Lib.hid (HAB.out (k : Int) false hb)
          have HKS : Hid (keptI NS i (k + 1) = keptI NS i k) := by show _ = _; unfold keptI; rw [Tree.kept_no hin]
          have HCS := Lib.hid (Tree.cut_no (T := NS) (i := i) (k := k) hin)
          clear hb hin
          go_wp2_with fail
          refine (HA.out _ HR.out.ext).mono ?_
          rintro e w2 ⟨rfl, hx2⟩
          have R2 := HR.out.grow hx2
          have R3 : Hid (RCut w w2 base A n c _ (keptI NS i (k + 1)) _ (Tree.cutTo NS i (k + 1))) := Lib.hid (by rw [HKS.out, HCS.out]; exact R2)
          clear R2 t0 c4 f4 b0 b1 HR HA
          go_wp2
          go_roundw
          case rel =>
            first | exact ⟨k + 1, _, by omega, by go_num, R3.out⟩ | (refine ⟨_, _, _, _, _, _, ⟨k + 1, _, by omega, ?_, R3.out⟩, rfl, rfl, rfl, rfl, rfl, rfl⟩; go_num)
          case measure => simp [intOf]; omega
      · have e : k = n := by omega
        subst e
        obtain ⟨VA, vc, rfl⟩ := own_form' HR.out.own
        have l4 := lt_of_cell c4
        have l5 := lt_of_cell b0
        have hcl : (Tree.cutTo NS i k).length ≤ k := by rw [Tree.cut_len]; exact Tree.kept_len NS i k
        have hnl := NL.own HR.out.own (by omega) rfl (cutTo_ok HOK.out (by rw [HLE.out]; exact h12) i k (by rw [HLE.out]; exact Nat.le_refl _))
        obtain ⟨A3, c3, e3, hnl, hf3⟩ := hnl
        obtain ⟨rfl, rfl⟩ : VA = A3 ∧ vc = c3 := by simpa using e3
        have HN := Lib.hid hnl
        have HF := Lib.hid (fun ad (e : VA = some ad) => (by have := hf3 ad e; have := HR.out.low; show ad.block ≠ w.heap.size + 1; omega : ad.block ≠ w.heap.size + 1))
        have HX := Lib.hid HR.out.ext
        clear HR hnl hf3 e3 HOK
        generalize (Tree.cutTo NS i k).length = m at *
        go_wp2
        refine bodyPost_ret (v := .agg #[.slice VA m vc]) (by simp (maxDischargeDepth := 7) [results, Try.results24, go_sem, c4, f4]) rfl ⟨⟨_, _, _, rfl, ?_⟩, HX.out.setCell (p := ⟨w.heap.size + 1, 0, none⟩) (by show w.heap.size ≤ w.heap.size + 1; omega) _⟩
        exact HN.out.setCell (p := ⟨w.heap.size + 1, 0, none⟩) HF.out _
end Go.Proofs.Ytoifhpcpahfddaa
