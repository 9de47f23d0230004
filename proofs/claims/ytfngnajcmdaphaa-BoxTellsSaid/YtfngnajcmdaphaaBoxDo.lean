/- The contracts of layer 5 (box): do, for any method that keeps its promise; Post, Take, Close. -/
import Derived.Test.YtfngnajcmdaphaaBoxTake
namespace Go.Proofs.Ytfngnajcmdaphaa
open Go.RowKit Go.WideShapes Go.ChangeShapes
set_option linter.unusedVariables false
set_option linter.unusedSimpArgs false









def zWork : Array Value := ([Value.int .i64 0, Value.slice none 0 0, Value.bool false, Value.bool false] ++ Note.zero.cells).toArray
theorem zWork_size : zWork.size = 70 := rfl
theorem zeroWork (w : World) : Sem.run Try.prog (zeroValue 53) w = .ok (.agg zWork) w := by kernel_rfl
theorem zWork_put (a b c d : Value) {x : Note} (hx : x.Ok) : List.foldl (fun (cs : Array Value) (x : Value × Nat) => cs.setIfInBounds (4 + x.snd) x.fst) ((((zWork.setIfInBounds 0 a).setIfInBounds 1 b).setIfInBounds 2 c).setIfInBounds 3 d) x.cells.zipIdx = ([a, b, c, d] ++ x.cells).toArray := by
  have := fold_put x.cells 4 0 ((((zWork.setIfInBounds 0 a).setIfInBounds 1 b).setIfInBounds 2 c).setIfInBounds 3 d)
  simp only [Nat.zero_add, Nat.add_zero] at this
  rw [this]
  have hl := Note.len hx
  apply Array.toList_inj.1
  rw [putAll_list _ _ _ (by simp [zWork_size, hl])]
  have hz : zWork.toList = [Value.int .i64 0, Value.slice none 0 0, Value.bool false, Value.bool false] ++ Note.zero.cells := by unfold zWork; simp
  have hd : ([a, b, c, d] ++ Note.zero.cells).drop (4 + x.cells.length) = [] := List.drop_eq_nil_of_le (by simp [hl, Note.len Note.zero_ok])
  simp only [Array.toList_setIfInBounds, hz, List.cons_append, List.nil_append, List.set_cons_zero, List.set_cons_succ] at hd ⊢
  rw [hd]
  simp
theorem workR_new {cap : Int} {A : Option Addr} {n c : Nat} {lag cl : Bool} {x : Note} (w : World) (hx : x.Ok) : WorkR (w.alloc (.cells (([Value.int .i64 cap, Value.slice A n c, Value.bool lag, Value.bool cl]) ++ x.cells).toArray 53)) w.heap.size cap A n c lag cl x := by
  have R := range_at (w := w) (B := w.heap.size) (([Value.int .i64 cap, Value.slice A n c, Value.bool lag, Value.bool cl]) ++ x.cells) 53 rfl
  refine ⟨by simp, by simp, by simp, by simp, fun j v hv => ?_, fun o => frozen_new _ _ _ _⟩
  have := R (4 + j) v (by rw [List.getElem?_append_right (by simp)]; simpa using hv)
  simpa using this
theorem WorkR.box {W : World} {B n c : Nat} {cap : Int} {A : Option Addr} {lag cl : Bool} {x : Note} (h : WorkR W B cap A n c lag cl x) : W.rangeAt B 0 ([Value.int .i64 cap, Value.slice A n c, Value.bool lag, Value.bool cl]) := by
  intro j v hv
  match j, hv with
  | 0, hv => cases hv; simpa using h.c0
  | 1, hv => cases hv; simpa using h.c1
  | 2, hv => cases hv; simpa using h.c2
  | 3, hv => cases hv; simpa using h.c3
theorem there_of {w : World} {B n : Nat} {cs : List Value} (h : w.rangeAt B 0 cs) (hn : cs.length = n) (hf : ∀ o, w.frozen? ⟨B, o, none⟩ = false) : w.there B 0 n := fun j hj => by
  have := h j _ (List.getElem?_eq_getElem (by omega))
  exact ⟨by rw [this]; rfl, hf _⟩
theorem there_box {w : World} {B : Nat} {x0 x1 x2 x3 : Value} (h : w.rangeAt B 0 [x0, x1, x2, x3]) (hf : ∀ o, w.frozen? ⟨B, o, none⟩ = false) : w.there B 0 4 := there_of h rfl hf
theorem cf_of {k : Nat} {fn : Func} (hf : Try.prog.funcs[k]? = some fn) (h1 : (fn.name == "runtime.NumGoroutine") = false) (h2 : fn.body.isNone = false) (a : Array Value) (w : World) : Sem.run Try.prog (callFunc k a) w = .ok (.enter k a) w := by
  have h1' : ¬ fn.name = "runtime.NumGoroutine" := by simpa using h1
  have h2' : ¬ fn.body = none := by intro h; rw [h] at h2; cases h2
  simp [callFunc, go_sem, hf, h1', h2']
/-- What a method promises of the box, and the note, at block B. -/
def WorkOut (w : World) (B base : Nat) (cap : Int) (b : Bool) (NS' : List Note) (lag' cl' : Bool) (x' : Note) (e : Ending) (w' : World) : Prop :=
  (∃ A' c', e = .returned (.bool b) ∧ WorkR w' B cap A' NS'.length c' lag' cl' x' ∧ TL w' A' NS'.length c' NS' ∧ ∀ ad, A' = some ad → base ≤ ad.block) ∧ Ext w w'
set_option maxRecDepth 100000 in
set_option maxHeartbeats 1000000 in
theorem do_any (k : Nat) (hcf : ∀ (a : Array Value) (w : World), Sem.run Try.prog (callFunc k a) w = .ok (.enter k a) w) (A : Option Addr) (n c : Nat) (NS : List Note) (cap : Int) (lag cl : Bool) (x : Note) (b : Bool) (NS' : List Note) (lag' cl' : Bool) (x' : Note) (w : World) (h : TL w A n c NS) (hxo : x.Ok) (hxo' : x'.Ok)
    (hk : Box.mayV cap NS = true → ∀ (w0 W : World) (B base : Nat) (A1 : Option Addr) (c1 : Nat), Ext w0 W → w0.heap.size ≤ B → w0.heap.size ≤ base → base ≤ W.heap.size → WorkR W B cap A1 n c1 lag cl x → W.ownsRow base 33 66 (.slice A1 n c1) n (flatT NS) → (Value.slice A1 n c1).ownBlock ≠ some B →
      Calls Try.prog k #[.pointer (some ⟨B, 0, none⟩)] W (WorkOut w0 B base cap b NS' lag' cl' x'))
    (hno : Box.mayV cap NS = false → b = false ∧ NS' = NS ∧ lag' = lag ∧ cl' = cl ∧ x' = x) :
    Calls Try.prog 23 #[.agg #[.int .i64 cap, .slice A n c, .bool lag, .bool cl], .agg x.cells.toArray, .func (.func k) #[] #[]] w fun e w' => (∃ A' c', e = .returned (.tuple #[.agg #[.int .i64 cap, .slice A' NS'.length c', .bool lag', .bool cl'], .agg x'.cells.toArray, .bool b]) ∧ TL w' A' NS'.length c' NS' ∧ ∀ ad, A' = some ad → w.heap.size ≤ ad.block) ∧ Ext w w' := by
  have hx66 : x.cells.length = 66 := Note.len hxo
  have hi66 : (Try.prog.info? 33).map (·.size) = some x.cells.length := by rw [hx66]; kernel_rfl
  have hu33 := Try.underlying33
  have hu24 := Try.underlying24
  have hi4 : (Try.prog.info? 24).map (·.size) = some 4 := by kernel_rfl
  have hzn := zeroNote
  have hzs := zNote_size
  have hze := zNote_ne
  have hzw := zeroWork
  have hzk := zWork_size
  have HV := Lib.hid (fun W (k : Ext w W) => h.ext k)
  have HK := Lib.hid hk
  have HNO := Lib.hid hno
  clear h hk hno
  go_enter Try.func23, Try.ntmps23
  go_wp2
  have kw : Ext w ((((w.alloc (Obj.cells #[Value.int IntKind.i64 cap, Value.slice A n c, Value.bool lag, Value.bool cl] 24)).alloc (Obj.cells x.cells.toArray 33)).alloc (Obj.cells #[Value.int IntKind.i64 0, Value.slice none 0 0, Value.bool false, Value.bool false] 24)).alloc (Obj.cells zNote 33)) := (by repeat (first | assumption | exact Ext.refl _ | refine Ext.alloc ?_ _ | refine Ext.drew ?_ | refine Ext.drewN ?_ _ | refine Ext.setCell ?_ (by first | (simp; done) | omega | (simp; omega)) _ | refine Ext.trans (by assumption) ?_))
  obtain ⟨w0, hw0⟩ : ∃ w0, w0 = ((((w.alloc (Obj.cells #[Value.int IntKind.i64 cap, Value.slice A n c, Value.bool lag, Value.bool cl] 24)).alloc (Obj.cells x.cells.toArray 33)).alloc (Obj.cells #[Value.int IntKind.i64 0, Value.slice none 0 0, Value.bool false, Value.bool false] 24)).alloc (Obj.cells zNote 33)) := ⟨_, rfl⟩
  have bX : w0.rangeAt w.heap.size 0 ([Value.int .i64 cap, Value.slice A n c, Value.bool lag, Value.bool cl]) := by rw [hw0]; exact rangeAt_ext (range_at (w := w) (B := w.heap.size) ([Value.int .i64 cap, Value.slice A n c, Value.bool lag, Value.bool cl]) 24 rfl) ((by repeat (first | assumption | exact Ext.refl _ | refine Ext.alloc ?_ _ | refine Ext.drew ?_ | refine Ext.drewN ?_ _ | refine Ext.setCell ?_ (by first | (simp; done) | omega | (simp; omega)) _ | refine Ext.trans (by assumption) ?_)))
  have nX : w0.rangeAt (w.heap.size + 1) 0 x.cells := by rw [hw0]; exact rangeAt_ext (range_at (w := w.alloc _) (B := w.heap.size + 1) x.cells 33 (by simp)) ((by repeat (first | assumption | exact Ext.refl _ | refine Ext.alloc ?_ _ | refine Ext.drew ?_ | refine Ext.drewN ?_ _ | refine Ext.setCell ?_ (by first | (simp; done) | omega | (simp; omega)) _ | refine Ext.trans (by assumption) ?_)))
  have bZ : w0.rangeAt (w.heap.size + 1 + 1) 0 ([Value.int .i64 0, Value.slice none 0 0, Value.bool false, Value.bool false]) := by rw [hw0]; exact rangeAt_ext (range_at (w := (w.alloc _).alloc _) (B := w.heap.size + 1 + 1) ([Value.int .i64 0, Value.slice none 0 0, Value.bool false, Value.bool false]) 24 (by simp)) ((by repeat (first | assumption | exact Ext.refl _ | refine Ext.alloc ?_ _ | refine Ext.drew ?_ | refine Ext.drewN ?_ _ | refine Ext.setCell ?_ (by first | (simp; done) | omega | (simp; omega)) _ | refine Ext.trans (by assumption) ?_)))
  have nZ : w0.rangeAt (w.heap.size + 1 + 1 + 1) 0 Note.zero.cells := by rw [hw0]; exact range_at (w := ((w.alloc _).alloc _).alloc _) (B := w.heap.size + 1 + 1 + 1) Note.zero.cells 33 (by simp)
  have fZ : ∀ o, w0.frozen? ⟨w.heap.size + 1 + 1, o, none⟩ = false := fun o => by rw [hw0]; simp (maxDischargeDepth := 7) [go_sem]
  have fN : ∀ o, w0.frozen? ⟨w.heap.size + 1 + 1 + 1, o, none⟩ = false := fun o => by rw [hw0]; simp (maxDischargeDepth := 7) [go_sem]
  have hz : w0.heap.size = w.heap.size + 1 + 1 + 1 + 1 := by rw [hw0]; simp
  rw [← hw0] at kw ⊢
  have HBZ := Lib.hid (And.intro bZ fZ)
  have HNZ := Lib.hid (And.intro nZ fN)
  clear hw0 bZ nZ fZ fN
  obtain ⟨X0, hX0⟩ : ∃ X0, X0 = w.heap.size := ⟨_, rfl⟩
  obtain ⟨X1, hX1⟩ : ∃ X1, X1 = w.heap.size + 1 := ⟨_, rfl⟩
  obtain ⟨X2, hX2⟩ : ∃ X2, X2 = w.heap.size + 1 + 1 := ⟨_, rfl⟩
  obtain ⟨X3, hX3⟩ : ∃ X3, X3 = w.heap.size + 1 + 1 + 1 := ⟨_, rfl⟩
  have HZ : Hid (w0.heap.size = X0 + 4 ∧ X1 = X0 + 1 ∧ X2 = X0 + 2 ∧ X3 = X0 + 3 ∧ X0 = w.heap.size) := by show _ ∧ _; omega
  rw [← hX3] at HNZ ⊢
  rw [← hX2] at HBZ ⊢
  rw [← hX1] at nX ⊢
  rw [← hX0] at bX ⊢
  clear hX0 hX1 hX2 hX3 hz
  have HBX := Lib.hid bX
  have HNX := Lib.hid nX
  refine wp_region_noPanic ?_
  refine wp_region_held_drew (S := fun w' => w'.rangeAt X0 0 ([Value.int .i64 cap, Value.slice A n c, Value.bool lag, Value.bool cl]) ∧ w'.rangeAt X1 0 x.cells) (by kernel_rfl) ⟨rangeAt_ext bX ((by repeat (first | assumption | exact Ext.refl _ | refine Ext.alloc ?_ _ | refine Ext.drew ?_ | refine Ext.drewN ?_ _ | refine Ext.setCell ?_ (by first | (simp; done) | omega | (simp; omega)) _ | refine Ext.trans (by assumption) ?_))), rangeAt_ext nX ((by repeat (first | assumption | exact Ext.refl _ | refine Ext.alloc ?_ _ | refine Ext.drew ?_ | refine Ext.drewN ?_ _ | refine Ext.setCell ?_ (by first | (simp; done) | omega | (simp; omega)) _ | refine Ext.trans (by assumption) ?_)))⟩ (fun hHeld => ?_)
  change wpAnyH _ _ _ _ _ 6 (Array.replicate 6 false) _ _
  clear bX nX
  refine wpAnyH_take (i := 0) (v := .agg (([Value.int .i64 cap, Value.slice A n c, Value.bool lag, Value.bool cl])).toArray) rfl (by kernel_rfl) (by kernel_rfl) (by kernel_rfl) (fun _ _ _ h => h) (yieldsIf_load_mid (by rfl) 24 (.tmp 3) (by rfl) X0 0 (by go_simp) (([Value.int .i64 cap, Value.slice A n c, Value.bool lag, Value.bool cl])) _ (fun w hw => hw.1) hu24 (by rfl) hi4) hHeld ?_
  (try simp only [List.getElem_toArray, List.getElem_cons_zero, List.getElem_cons_succ, Act.put, List.setIfInBounds_toArray, List.set_cons_zero, List.set_cons_succ])
  refine wpAnyH_take (i := 2) (v := .agg (x.cells).toArray) rfl (by kernel_rfl) (by kernel_rfl) (by kernel_rfl) (fun _ _ _ h => h) (yieldsIf_load_mid (by rfl) 33 (.tmp 4) (by rfl) X1 0 (by go_simp) (x.cells) _ (fun w hw => hw.2) hu33 (by rfl) hi66) hHeld ?_
  (try simp only [List.getElem_toArray, List.getElem_cons_zero, List.getElem_cons_succ, Act.put, List.setIfInBounds_toArray, List.set_cons_zero, List.set_cons_succ])
  refine wpAnyH_ready (rs := [1]) (by kernel_rfl) (by simp) ?_
  refine AllReadyH.cons rfl (fun K hK => ?_) ?_
  · go_simp
    refine (own_any A n c NS cap lag cl w0.drew (HV.out _ (kw.trans ((Ext.refl _).drew)))).mono ?_
    rintro e w1 ⟨⟨A1, c1, rfl, hown⟩, hx1⟩
    have k1 : Ext w0 w1 := ((Ext.refl _).drew).trans hx1
    refine hK.out _ _ ⟨rangeAt_ext HBX.out k1, rangeAt_ext HNX.out k1⟩ (fun hHeld => ?_)
    clear hK K
    (try simp only [List.getElem_toArray, List.getElem_cons_zero, List.getElem_cons_succ, Act.put, List.setIfInBounds_toArray, List.set_cons_zero, List.set_cons_succ])
    have hz1 := hx1.size
    have HO := Lib.hid (own_base hown (b := w0.heap.size) (by simp))
    clear hown hx1
    refine wpAnyH_ready (rs := [3]) (by kernel_rfl) (by simp) ?_
    refine AllReadyH.cons rfl (fun K hK => ?_) ?_
    · go_simp
      rw [zWork_put _ _ _ _ hxo]
      refine hK.out _ _ ⟨rangeAt_ext HBX.out k1, rangeAt_ext HNX.out k1⟩ (fun hHeld => ?_)
      clear hK K
      (try simp only [List.getElem_toArray, List.getElem_cons_zero, List.getElem_cons_succ, Act.put, List.setIfInBounds_toArray, List.set_cons_zero, List.set_cons_succ])
      refine wpAnyH_ready (rs := [4]) (by kernel_rfl) (by simp) ?_
      refine AllReadyH.cons rfl (fun K hK => ?_) ?_
      · go_simp
        have W1 : WorkR (w1.alloc (.cells (([Value.int .i64 cap, Value.slice A1 n c1, Value.bool lag, Value.bool cl]) ++ x.cells).toArray 53)) w1.heap.size cap A1 n c1 lag cl x := workR_new w1 hxo
        have k2 : Ext w0 (w1.alloc (.cells (([Value.int .i64 cap, Value.slice A1 n c1, Value.bool lag, Value.bool cl]) ++ x.cells).toArray 53)) := k1.alloc _
        have O2 := own_ext HO.out ((Ext.refl w1).alloc (.cells (([Value.int .i64 cap, Value.slice A1 n c1, Value.bool lag, Value.bool cl]) ++ x.cells).toArray 53))
        have hne : (Value.slice A1 n c1).ownBlock ≠ some w1.heap.size := fun h => absurd (HO.out.lt _ h).2 (Nat.lt_irrefl _)
        have hsB : w0.heap.size ≤ w1.heap.size := k1.size
        change K _ (w1.alloc (.cells (([Value.int .i64 cap, Value.slice A1 n c1, Value.bool lag, Value.bool cl]) ++ x.cells).toArray 53))
        generalize (w1.alloc (.cells (([Value.int .i64 cap, Value.slice A1 n c1, Value.bool lag, Value.bool cl]) ++ x.cells).toArray 53)) = W2 at *
        generalize w1.heap.size = B at *
        clear HO k1 hz1
        refine hK.out _ _ ⟨rangeAt_ext HBX.out k2, rangeAt_ext HNX.out k2⟩ (fun hHeld => ?_)
        clear hK K
        (try simp only [List.getElem_toArray, List.getElem_cons_zero, List.getElem_cons_succ, Act.put, List.setIfInBounds_toArray, List.set_cons_zero, List.set_cons_succ])
        refine wpAnyH_ready (rs := [5]) (by kernel_rfl) (by simp) ?_
        refine AllReadyH.cons rfl (fun K hK => ?_) ?_
        · go_simp
          refine hK.out _ _ ⟨rangeAt_ext HBX.out k2, rangeAt_ext HNX.out k2⟩ (fun hHeld => ?_)
          clear hK K
          (try simp only [List.getElem_toArray, List.getElem_cons_zero, List.getElem_cons_succ, Act.put, List.setIfInBounds_toArray, List.set_cons_zero, List.set_cons_succ])
          refine wpAnyH_done (by kernel_rfl) ?_ _
          refine NoPanic.normal ?_
          have k3 := k2
          have b3 := rangeAt_ext HBX.out k3
          have p0 := b3 0 _ rfl
          have p1 := b3 1 _ rfl
          have p2 := b3 2 _ rfl
          have p3 := b3 3 _ rfl
          simp only [Nat.zero_add, Nat.add_zero] at p0 p1 p2 p3
          have HW := Lib.hid W1
          have HO := Lib.hid O2
          have HN := Lib.hid hne
          have HM := Lib.hid (bmay_any A n c NS cap lag cl _ (HV.out _ (kw.trans k3)))
          have hT1 := HV.out _ kw
          have hlen := hT1.len
          have hbytes := hT1.bytes
          have hoks := hT1.ok
          clear b3 hHeld W1 O2 hne hT1
          cases hm : Box.mayV cap NS with
          | false =>
            rw [hm] at HM
            obtain ⟨rfl, rfl, rfl, rfl, rfl⟩ := HNO.out hm
            clear hm HK HNO
            go_wp2_with fail
            refine HM.out.mono ?_
            rintro e w4 ⟨rfl, hx4⟩
            obtain ⟨A5, c5, e5, hT5, hfr5⟩ := TL.own (own_ext HO.out hx4) hbytes hlen hoks
            obtain ⟨rfl, rfl⟩ : A1 = A5 ∧ c1 = c5 := by simpa using e5
            have R5 := HW.out.ext hx4
            have k5 := k3.trans hx4
            rw [← hlen] at R5 hT5
            clear e5 HM HW HO p0 p1 p2 p3
            go_wp2
            generalize w4 = w5 at *
            have hy66 : x'.cells.length = 66 := Note.len hxo'
            have hj66 : (Try.prog.info? 33).map (·.size) = some x'.cells.length := by rw [hy66]; kernel_rfl
            have HB5 := Lib.hid R5.box
            have HN5 := Lib.hid R5.r
            have HT5 := Lib.hid hT5
            have HK5 := Lib.hid k5
            obtain ⟨hzA, hzB, hzC, hzD, hzE⟩ := HZ.out
            clear R5 hT5
            refine wp_region_noPanic ?_
            refine wp_region_held_drew (S := fun w' => w'.rangeAt B 0 [Value.int .i64 cap, Value.slice A1 NS'.length c1, Value.bool lag', Value.bool cl'] ∧ w'.rangeAt B 4 x'.cells) (by kernel_rfl) ⟨rangeAt_ext HB5.out ((by repeat (first | assumption | exact Ext.refl _ | refine Ext.alloc ?_ _ | refine Ext.drew ?_ | refine Ext.drewN ?_ _ | refine Ext.setCell ?_ (by first | (simp; done) | omega | (simp; omega)) _ | refine Ext.trans (by assumption) ?_))), rangeAt_ext HN5.out ((by repeat (first | assumption | exact Ext.refl _ | refine Ext.alloc ?_ _ | refine Ext.drew ?_ | refine Ext.drewN ?_ _ | refine Ext.setCell ?_ (by first | (simp; done) | omega | (simp; omega)) _ | refine Ext.trans (by assumption) ?_)))⟩ (fun hHeld => ?_)
            change wpAnyH _ _ _ _ _ 12 (Array.replicate 12 false) _ _
            refine wpAnyH_take (i := 0) (v := Value.pointer (some ⟨B, 0, none⟩)) rfl (by kernel_rfl) (by kernel_rfl) (by kernel_rfl) (fun _ _ _ h => h) (Or.inl ⟨by rfl, fun _ hSw => by first | (go_simp; done) | (go_simp; with_reducible rfl)⟩) hHeld ?_
            (try simp only [List.getElem_toArray, List.getElem_cons_zero, List.getElem_cons_succ, Act.put, List.setIfInBounds_toArray, List.set_cons_zero, List.set_cons_succ])
            refine wpAnyH_take (i := 1) (v := Value.pointer (some ⟨B, 0, none⟩)) rfl (by kernel_rfl) (by kernel_rfl) (by kernel_rfl) (fun _ _ _ h => h) (Or.inl ⟨by rfl, fun _ hSw => by first | (go_simp; done) | (go_simp; with_reducible rfl)⟩) hHeld ?_
            (try simp only [List.getElem_toArray, List.getElem_cons_zero, List.getElem_cons_succ, Act.put, List.setIfInBounds_toArray, List.set_cons_zero, List.set_cons_succ])
            refine wpAnyH_take (i := 2) (v := Value.pointer (some ⟨B, 0, none⟩)) rfl (by kernel_rfl) (by kernel_rfl) (by kernel_rfl) (fun _ _ _ h => h) (Or.inl ⟨by rfl, fun _ hSw => by first | (go_simp; done) | (go_simp; with_reducible rfl)⟩) hHeld ?_
            (try simp only [List.getElem_toArray, List.getElem_cons_zero, List.getElem_cons_succ, Act.put, List.setIfInBounds_toArray, List.set_cons_zero, List.set_cons_succ])
            refine wpAnyH_take (i := 3) (v := .agg ([Value.int .i64 cap, Value.slice A1 NS'.length c1, Value.bool lag', Value.bool cl']).toArray) rfl (by kernel_rfl) (by kernel_rfl) (by kernel_rfl) (fun _ _ _ h => h) (yieldsIf_load_mid (by rfl) 24 (.tmp 25) (by rfl) B 0 (by go_simp) ([Value.int .i64 cap, Value.slice A1 NS'.length c1, Value.bool lag', Value.bool cl']) _ (fun w hw => hw.1) hu24 (by rfl) hi4) hHeld ?_
            (try simp only [List.getElem_toArray, List.getElem_cons_zero, List.getElem_cons_succ, Act.put, List.setIfInBounds_toArray, List.set_cons_zero, List.set_cons_succ])
            refine wpAnyH_take (i := 4) (v := Value.pointer (some ⟨B, 0, none⟩)) rfl (by kernel_rfl) (by kernel_rfl) (by kernel_rfl) (fun _ _ _ h => h) (Or.inl ⟨by rfl, fun _ hSw => by first | (go_simp; done) | (go_simp; with_reducible rfl)⟩) hHeld ?_
            (try simp only [List.getElem_toArray, List.getElem_cons_zero, List.getElem_cons_succ, Act.put, List.setIfInBounds_toArray, List.set_cons_zero, List.set_cons_succ])
            refine wpAnyH_take (i := 5) (v := Value.pointer (some ⟨B, 0, none⟩)) rfl (by kernel_rfl) (by kernel_rfl) (by kernel_rfl) (fun _ _ _ h => h) (Or.inl ⟨by rfl, fun _ hSw => by first | (go_simp; done) | (go_simp; with_reducible rfl)⟩) hHeld ?_
            (try simp only [List.getElem_toArray, List.getElem_cons_zero, List.getElem_cons_succ, Act.put, List.setIfInBounds_toArray, List.set_cons_zero, List.set_cons_succ])
            refine wpAnyH_take (i := 6) (v := Value.pointer (some ⟨B, 4, none⟩)) rfl (by kernel_rfl) (by kernel_rfl) (by kernel_rfl) (fun _ _ _ h => h) (Or.inl ⟨by rfl, fun _ hSw => by first | (go_simp; done) | (go_simp; with_reducible rfl)⟩) hHeld ?_
            (try simp only [List.getElem_toArray, List.getElem_cons_zero, List.getElem_cons_succ, Act.put, List.setIfInBounds_toArray, List.set_cons_zero, List.set_cons_succ])
            refine wpAnyH_take (i := 7) (v := .agg (x'.cells).toArray) rfl (by kernel_rfl) (by kernel_rfl) (by kernel_rfl) (fun _ _ _ h => h) (yieldsIf_load_mid (by rfl) 33 (.tmp 29) (by rfl) B 4 (by go_simp) (x'.cells) _ (fun w hw => hw.2) hu33 (by rfl) hj66) hHeld ?_
            (try simp only [List.getElem_toArray, List.getElem_cons_zero, List.getElem_cons_succ, Act.put, List.setIfInBounds_toArray, List.set_cons_zero, List.set_cons_succ])
            refine wpAnyH_take (i := 8) (v := Value.bool false) rfl (by kernel_rfl) (by kernel_rfl) (by kernel_rfl) (fun _ _ _ h => h) (Or.inl ⟨by rfl, fun _ hSw => by first | (go_simp; done) | (go_simp; with_reducible rfl)⟩) hHeld ?_
            (try simp only [List.getElem_toArray, List.getElem_cons_zero, List.getElem_cons_succ, Act.put, List.setIfInBounds_toArray, List.set_cons_zero, List.set_cons_succ])
            refine wpAnyH_ready (rs := [9]) (by kernel_rfl) (by simp) ?_
            refine AllReadyH.cons rfl (fun K hK => ?_) ?_
            · have hxD := (Ext.refl w5).drew
              have k6 := HK5.out.trans hxD
              have hT6 := HT5.out.ext hxD
              have B6 := rangeAt_ext HB5.out hxD
              have N6 := rangeAt_ext HN5.out hxD
              clear hHeld hxD HB5 HN5 HT5
              generalize w5.drew = W6 at *
              have hth2 := there_box (rangeAt_ext HBZ.out.1 k6) (k6.free (HBZ.out.1 0 _ rfl) HBZ.out.2)
              have hth3 := there_of (rangeAt_ext HNZ.out.1 k6) (Note.len Note.zero_ok) (k6.free (HNZ.out.1 0 _ rfl) HNZ.out.2)
              rw [if_pos (by rfl)]
              refine wp_store_mid 24 _ _ (by rfl) X2 0 #[Value.int .i64 cap, Value.slice A1 NS'.length c1, Value.bool lag', Value.bool cl'] (by go_simp) (by go_simp) hth2 hi4 (all_oneCell_toArray (by intro v hv; simp at hv; rcases hv with rfl | rfl | rfl | rfl <;> rfl)) ?_
              have B7 := World.rangeAt_setCells_apart B6 X2 0 [Value.int .i64 cap, Value.slice A1 NS'.length c1, Value.bool lag', Value.bool cl'] (.inl (by omega))
              have N7 := World.rangeAt_setCells_apart N6 X2 0 [Value.int .i64 cap, Value.slice A1 NS'.length c1, Value.bool lag', Value.bool cl'] (.inl (by omega))
              have Z7 := World.rangeAt_setCells_same W6 X2 0 [Value.int .i64 cap, Value.slice A1 NS'.length c1, Value.bool lag', Value.bool cl'] hth2
              have hT7 := TL.setCells (B := X2) (fun ad e => by have := hfr5 ad e; omega) [Value.int .i64 cap, Value.slice A1 NS'.length c1, Value.bool lag', Value.bool cl'] 0 hT6
              have k7 : Ext w (W6.setCells X2 0 [Value.int .i64 cap, Value.slice A1 NS'.length c1, Value.bool lag', Value.bool cl']) := Ext.setCells (by omega) _ _ (kw.trans k6)
              have hth7 := World.there_setCells hth3 X2 0 [Value.int .i64 cap, Value.slice A1 NS'.length c1, Value.bool lag', Value.bool cl']
              change K _ (W6.setCells X2 0 [Value.int .i64 cap, Value.slice A1 NS'.length c1, Value.bool lag', Value.bool cl'])
              clear B6 N6 hth2 hth3 hT6 k6
              generalize W6.setCells X2 0 [Value.int .i64 cap, Value.slice A1 NS'.length c1, Value.bool lag', Value.bool cl'] = W7 at *
              refine hK.out _ _ ⟨B7, N7⟩ (fun hHeld => ?_)
              clear hK K
              (try simp only [List.getElem_toArray, List.getElem_cons_zero, List.getElem_cons_succ, Act.put, List.setIfInBounds_toArray, List.set_cons_zero, List.set_cons_succ])
              refine wpAnyH_ready (rs := [10]) (by kernel_rfl) (by simp) ?_
              refine AllReadyH.cons rfl (fun K hK => ?_) ?_
              · rw [if_pos (by rfl)]
                refine wp_store_mid 33 _ _ (by rfl) X3 0 x'.cells.toArray (by go_simp) (by go_simp) (by rw [List.size_toArray, hy66]; exact hth7) (by rw [List.size_toArray]; exact hj66) (all_oneCell_toArray (Note.one x')) ?_
                rw [List.toList_toArray]
                have B8 := World.rangeAt_setCells_apart B7 X3 0 x'.cells (.inl (by omega))
                have N8 := World.rangeAt_setCells_apart N7 X3 0 x'.cells (.inl (by omega))
                have Z8 := World.rangeAt_setCells_apart Z7 X3 0 x'.cells (.inl (by omega))
                have Y8 := World.rangeAt_setCells_same W7 X3 0 x'.cells (by rw [hy66]; exact hth7)
                have hT8 := TL.setCells (B := X3) (fun ad e => by have := hfr5 ad e; omega) x'.cells 0 hT7
                have k8 : Ext w (W7.setCells X3 0 x'.cells) := Ext.setCells (by omega) _ _ k7
                clear B7 N7 Z7 hT7 k7 hth7
                generalize W7.setCells X3 0 x'.cells = W8 at *
                refine hK.out _ _ ⟨B8, N8⟩ (fun hHeld => ?_)
                clear hK K
                (try simp only [List.getElem_toArray, List.getElem_cons_zero, List.getElem_cons_succ, Act.put, List.setIfInBounds_toArray, List.set_cons_zero, List.set_cons_succ])
                refine wpAnyH_take (i := 11) (v := Value.bool false) rfl (by kernel_rfl) (by kernel_rfl) (by kernel_rfl) (fun _ _ _ h => h) (Or.inl ⟨by rfl, fun _ hSw => by first | (go_simp; done) | (go_simp; with_reducible rfl)⟩) hHeld ?_
                (try simp only [List.getElem_toArray, List.getElem_cons_zero, List.getElem_cons_succ, Act.put, List.setIfInBounds_toArray, List.set_cons_zero, List.set_cons_succ])
                refine wpAnyH_done (by kernel_rfl) ?_ _
                refine NoPanic.normal ?_
                have hl6 := run_loadVar_mid (P := Try.prog) W8 X2 0 24 _ _ Z8 hu24 rfl hi4
                have hl7 := run_loadVar_mid (P := Try.prog) W8 X3 0 33 _ _ Y8 hu33 rfl hj66
                have HT8 := Lib.hid hT8
                clear B8 N8 Z8 Y8 hT8 hHeld
                go_wp2
                refine bodyPost_ret (v := .tuple #[.agg #[.int .i64 cap, .slice A1 NS'.length c1, .bool lag', .bool cl'], .agg x'.cells.toArray, .bool false]) ?_ rfl ⟨⟨_, _, rfl, HT8.out, fun ad e => by have := hfr5 ad e; omega⟩, k8⟩
                simp only [results, Try.results23]
                simp [Sem.run_bind, Sem.run_pure, hl6, hl7, asAddr]
              · exact AllReadyH.nil
            · exact AllReadyH.nil
          | true =>
            rw [hm] at HM
            have HC := Lib.hid (HK.out hm)
            clear hm HK HNO
            go_wp2_with fail
            refine HM.out.mono ?_
            rintro e w4 ⟨rfl, hx4⟩
            go_wp2_with fail
            have k4 := k3.trans hx4
            refine (HC.out w0 w4 B w0.heap.size A1 c1 k4 hsB (Nat.le_refl _) k4.size (HW.out.ext hx4) (own_ext HO.out hx4) HN.out).mono ?_
            rintro e w5 ⟨⟨A5, c5, rfl, R5, hT5, hfr5⟩, k5⟩
            clear HM HW HO HC p0 p1 p2 p3 k4
            go_wp2
            have hy66 : x'.cells.length = 66 := Note.len hxo'
            have hj66 : (Try.prog.info? 33).map (·.size) = some x'.cells.length := by rw [hy66]; kernel_rfl
            have HB5 := Lib.hid R5.box
            have HN5 := Lib.hid R5.r
            have HT5 := Lib.hid hT5
            have HK5 := Lib.hid k5
            obtain ⟨hzA, hzB, hzC, hzD, hzE⟩ := HZ.out
            clear R5 hT5
            refine wp_region_noPanic ?_
            refine wp_region_held_drew (S := fun w' => w'.rangeAt B 0 [Value.int .i64 cap, Value.slice A5 NS'.length c5, Value.bool lag', Value.bool cl'] ∧ w'.rangeAt B 4 x'.cells) (by kernel_rfl) ⟨rangeAt_ext HB5.out ((by repeat (first | assumption | exact Ext.refl _ | refine Ext.alloc ?_ _ | refine Ext.drew ?_ | refine Ext.drewN ?_ _ | refine Ext.setCell ?_ (by first | (simp; done) | omega | (simp; omega)) _ | refine Ext.trans (by assumption) ?_))), rangeAt_ext HN5.out ((by repeat (first | assumption | exact Ext.refl _ | refine Ext.alloc ?_ _ | refine Ext.drew ?_ | refine Ext.drewN ?_ _ | refine Ext.setCell ?_ (by first | (simp; done) | omega | (simp; omega)) _ | refine Ext.trans (by assumption) ?_)))⟩ (fun hHeld => ?_)
            change wpAnyH _ _ _ _ _ 12 (Array.replicate 12 false) _ _
            refine wpAnyH_take (i := 0) (v := Value.pointer (some ⟨B, 0, none⟩)) rfl (by kernel_rfl) (by kernel_rfl) (by kernel_rfl) (fun _ _ _ h => h) (Or.inl ⟨by rfl, fun _ hSw => by first | (go_simp; done) | (go_simp; with_reducible rfl)⟩) hHeld ?_
            (try simp only [List.getElem_toArray, List.getElem_cons_zero, List.getElem_cons_succ, Act.put, List.setIfInBounds_toArray, List.set_cons_zero, List.set_cons_succ])
            refine wpAnyH_take (i := 1) (v := Value.pointer (some ⟨B, 0, none⟩)) rfl (by kernel_rfl) (by kernel_rfl) (by kernel_rfl) (fun _ _ _ h => h) (Or.inl ⟨by rfl, fun _ hSw => by first | (go_simp; done) | (go_simp; with_reducible rfl)⟩) hHeld ?_
            (try simp only [List.getElem_toArray, List.getElem_cons_zero, List.getElem_cons_succ, Act.put, List.setIfInBounds_toArray, List.set_cons_zero, List.set_cons_succ])
            refine wpAnyH_take (i := 2) (v := Value.pointer (some ⟨B, 0, none⟩)) rfl (by kernel_rfl) (by kernel_rfl) (by kernel_rfl) (fun _ _ _ h => h) (Or.inl ⟨by rfl, fun _ hSw => by first | (go_simp; done) | (go_simp; with_reducible rfl)⟩) hHeld ?_
            (try simp only [List.getElem_toArray, List.getElem_cons_zero, List.getElem_cons_succ, Act.put, List.setIfInBounds_toArray, List.set_cons_zero, List.set_cons_succ])
            refine wpAnyH_take (i := 3) (v := .agg ([Value.int .i64 cap, Value.slice A5 NS'.length c5, Value.bool lag', Value.bool cl']).toArray) rfl (by kernel_rfl) (by kernel_rfl) (by kernel_rfl) (fun _ _ _ h => h) (yieldsIf_load_mid (by rfl) 24 (.tmp 25) (by rfl) B 0 (by go_simp) ([Value.int .i64 cap, Value.slice A5 NS'.length c5, Value.bool lag', Value.bool cl']) _ (fun w hw => hw.1) hu24 (by rfl) hi4) hHeld ?_
            (try simp only [List.getElem_toArray, List.getElem_cons_zero, List.getElem_cons_succ, Act.put, List.setIfInBounds_toArray, List.set_cons_zero, List.set_cons_succ])
            refine wpAnyH_take (i := 4) (v := Value.pointer (some ⟨B, 0, none⟩)) rfl (by kernel_rfl) (by kernel_rfl) (by kernel_rfl) (fun _ _ _ h => h) (Or.inl ⟨by rfl, fun _ hSw => by first | (go_simp; done) | (go_simp; with_reducible rfl)⟩) hHeld ?_
            (try simp only [List.getElem_toArray, List.getElem_cons_zero, List.getElem_cons_succ, Act.put, List.setIfInBounds_toArray, List.set_cons_zero, List.set_cons_succ])
            refine wpAnyH_take (i := 5) (v := Value.pointer (some ⟨B, 0, none⟩)) rfl (by kernel_rfl) (by kernel_rfl) (by kernel_rfl) (fun _ _ _ h => h) (Or.inl ⟨by rfl, fun _ hSw => by first | (go_simp; done) | (go_simp; with_reducible rfl)⟩) hHeld ?_
            (try simp only [List.getElem_toArray, List.getElem_cons_zero, List.getElem_cons_succ, Act.put, List.setIfInBounds_toArray, List.set_cons_zero, List.set_cons_succ])
            refine wpAnyH_take (i := 6) (v := Value.pointer (some ⟨B, 4, none⟩)) rfl (by kernel_rfl) (by kernel_rfl) (by kernel_rfl) (fun _ _ _ h => h) (Or.inl ⟨by rfl, fun _ hSw => by first | (go_simp; done) | (go_simp; with_reducible rfl)⟩) hHeld ?_
            (try simp only [List.getElem_toArray, List.getElem_cons_zero, List.getElem_cons_succ, Act.put, List.setIfInBounds_toArray, List.set_cons_zero, List.set_cons_succ])
            refine wpAnyH_take (i := 7) (v := .agg (x'.cells).toArray) rfl (by kernel_rfl) (by kernel_rfl) (by kernel_rfl) (fun _ _ _ h => h) (yieldsIf_load_mid (by rfl) 33 (.tmp 29) (by rfl) B 4 (by go_simp) (x'.cells) _ (fun w hw => hw.2) hu33 (by rfl) hj66) hHeld ?_
            (try simp only [List.getElem_toArray, List.getElem_cons_zero, List.getElem_cons_succ, Act.put, List.setIfInBounds_toArray, List.set_cons_zero, List.set_cons_succ])
            refine wpAnyH_take (i := 8) (v := Value.bool b) rfl (by kernel_rfl) (by kernel_rfl) (by kernel_rfl) (fun _ _ _ h => h) (Or.inl ⟨by rfl, fun _ hSw => by first | (go_simp; done) | (go_simp; with_reducible rfl)⟩) hHeld ?_
            (try simp only [List.getElem_toArray, List.getElem_cons_zero, List.getElem_cons_succ, Act.put, List.setIfInBounds_toArray, List.set_cons_zero, List.set_cons_succ])
            refine wpAnyH_ready (rs := [9]) (by kernel_rfl) (by simp) ?_
            refine AllReadyH.cons rfl (fun K hK => ?_) ?_
            · have hxD := (Ext.refl w5).drew
              have k6 := HK5.out.trans hxD
              have hT6 := HT5.out.ext hxD
              have B6 := rangeAt_ext HB5.out hxD
              have N6 := rangeAt_ext HN5.out hxD
              clear hHeld hxD HB5 HN5 HT5
              generalize w5.drew = W6 at *
              have hth2 := there_box (rangeAt_ext HBZ.out.1 k6) (k6.free (HBZ.out.1 0 _ rfl) HBZ.out.2)
              have hth3 := there_of (rangeAt_ext HNZ.out.1 k6) (Note.len Note.zero_ok) (k6.free (HNZ.out.1 0 _ rfl) HNZ.out.2)
              rw [if_pos (by rfl)]
              refine wp_store_mid 24 _ _ (by rfl) X2 0 #[Value.int .i64 cap, Value.slice A5 NS'.length c5, Value.bool lag', Value.bool cl'] (by go_simp) (by go_simp) hth2 hi4 (all_oneCell_toArray (by intro v hv; simp at hv; rcases hv with rfl | rfl | rfl | rfl <;> rfl)) ?_
              have B7 := World.rangeAt_setCells_apart B6 X2 0 [Value.int .i64 cap, Value.slice A5 NS'.length c5, Value.bool lag', Value.bool cl'] (.inl (by omega))
              have N7 := World.rangeAt_setCells_apart N6 X2 0 [Value.int .i64 cap, Value.slice A5 NS'.length c5, Value.bool lag', Value.bool cl'] (.inl (by omega))
              have Z7 := World.rangeAt_setCells_same W6 X2 0 [Value.int .i64 cap, Value.slice A5 NS'.length c5, Value.bool lag', Value.bool cl'] hth2
              have hT7 := TL.setCells (B := X2) (fun ad e => by have := hfr5 ad e; omega) [Value.int .i64 cap, Value.slice A5 NS'.length c5, Value.bool lag', Value.bool cl'] 0 hT6
              have k7 : Ext w (W6.setCells X2 0 [Value.int .i64 cap, Value.slice A5 NS'.length c5, Value.bool lag', Value.bool cl']) := Ext.setCells (by omega) _ _ (kw.trans k6)
              have hth7 := World.there_setCells hth3 X2 0 [Value.int .i64 cap, Value.slice A5 NS'.length c5, Value.bool lag', Value.bool cl']
              change K _ (W6.setCells X2 0 [Value.int .i64 cap, Value.slice A5 NS'.length c5, Value.bool lag', Value.bool cl'])
              clear B6 N6 hth2 hth3 hT6 k6
              generalize W6.setCells X2 0 [Value.int .i64 cap, Value.slice A5 NS'.length c5, Value.bool lag', Value.bool cl'] = W7 at *
              refine hK.out _ _ ⟨B7, N7⟩ (fun hHeld => ?_)
              clear hK K
              (try simp only [List.getElem_toArray, List.getElem_cons_zero, List.getElem_cons_succ, Act.put, List.setIfInBounds_toArray, List.set_cons_zero, List.set_cons_succ])
              refine wpAnyH_ready (rs := [10]) (by kernel_rfl) (by simp) ?_
              refine AllReadyH.cons rfl (fun K hK => ?_) ?_
              · rw [if_pos (by rfl)]
                refine wp_store_mid 33 _ _ (by rfl) X3 0 x'.cells.toArray (by go_simp) (by go_simp) (by rw [List.size_toArray, hy66]; exact hth7) (by rw [List.size_toArray]; exact hj66) (all_oneCell_toArray (Note.one x')) ?_
                rw [List.toList_toArray]
                have B8 := World.rangeAt_setCells_apart B7 X3 0 x'.cells (.inl (by omega))
                have N8 := World.rangeAt_setCells_apart N7 X3 0 x'.cells (.inl (by omega))
                have Z8 := World.rangeAt_setCells_apart Z7 X3 0 x'.cells (.inl (by omega))
                have Y8 := World.rangeAt_setCells_same W7 X3 0 x'.cells (by rw [hy66]; exact hth7)
                have hT8 := TL.setCells (B := X3) (fun ad e => by have := hfr5 ad e; omega) x'.cells 0 hT7
                have k8 : Ext w (W7.setCells X3 0 x'.cells) := Ext.setCells (by omega) _ _ k7
                clear B7 N7 Z7 hT7 k7 hth7
                generalize W7.setCells X3 0 x'.cells = W8 at *
                refine hK.out _ _ ⟨B8, N8⟩ (fun hHeld => ?_)
                clear hK K
                (try simp only [List.getElem_toArray, List.getElem_cons_zero, List.getElem_cons_succ, Act.put, List.setIfInBounds_toArray, List.set_cons_zero, List.set_cons_succ])
                refine wpAnyH_take (i := 11) (v := Value.bool b) rfl (by kernel_rfl) (by kernel_rfl) (by kernel_rfl) (fun _ _ _ h => h) (Or.inl ⟨by rfl, fun _ hSw => by first | (go_simp; done) | (go_simp; with_reducible rfl)⟩) hHeld ?_
                (try simp only [List.getElem_toArray, List.getElem_cons_zero, List.getElem_cons_succ, Act.put, List.setIfInBounds_toArray, List.set_cons_zero, List.set_cons_succ])
                refine wpAnyH_done (by kernel_rfl) ?_ _
                refine NoPanic.normal ?_
                have hl6 := run_loadVar_mid (P := Try.prog) W8 X2 0 24 _ _ Z8 hu24 rfl hi4
                have hl7 := run_loadVar_mid (P := Try.prog) W8 X3 0 33 _ _ Y8 hu33 rfl hj66
                have HT8 := Lib.hid hT8
                clear B8 N8 Z8 Y8 hT8 hHeld
                go_wp2
                refine bodyPost_ret (v := .tuple #[.agg #[.int .i64 cap, .slice A5 NS'.length c5, .bool lag', .bool cl'], .agg x'.cells.toArray, .bool b]) ?_ rfl ⟨⟨_, _, rfl, HT8.out, fun ad e => by have := hfr5 ad e; omega⟩, k8⟩
                simp only [results, Try.results23]
                simp [Sem.run_bind, Sem.run_pure, hl6, hl7, asAddr]
              · exact AllReadyH.nil
            · exact AllReadyH.nil
        · exact AllReadyH.nil
      · exact AllReadyH.nil
    · exact AllReadyH.nil
  · exact AllReadyH.nil
namespace Box
/-- What Post, Take and Close answer. -/
def postD (cap : Int) (l : List Note) (lag cl : Bool) (x : Note) : Bool × List Note × Bool := if mayV cap l = true then postW cap l lag cl x else (false, l, lag)
def takeD (cap : Int) (l : List Note) : Bool × List Note × Note := if mayV cap l = true then takeW l Note.zero else (false, l, Note.zero)
def closeD (cap : Int) (l : List Note) (cl : Bool) : Bool × Bool := if mayV cap l = true then (!cl, true) else (false, cl)
theorem postW_len {cap : Int} {l : List Note} {lag cl : Bool} {x : Note} : (postW cap l lag cl x).2.1.length ≤ l.length + 1 := by
  unfold postW
  split
  · simp
  · split <;> simp
theorem postW_ok {cap : Int} {l : List Note} {lag cl : Bool} {x : Note} (h : ∀ y ∈ l, y.Ok) (hx : x.Ok) : ∀ y ∈ (postW cap l lag cl x).2.1, y.Ok := by
  unfold postW
  split
  · exact h
  · split
    · exact h
    · intro y hy
      simp at hy
      rcases hy with hy | rfl
      · exact h y hy
      · exact hx
theorem takeW_ok {l : List Note} {x : Note} (h : ∀ y ∈ l, y.Ok) (hx : x.Ok) : (takeW l x).2.2.Ok := by
  cases l with
  | nil => exact hx
  | cons y l => exact h y (by simp)
end Box
theorem may_len {cap : Int} {l : List Note} (h : Box.mayV cap l = true) : l.length ≤ 8 := by have := (Box.mayV_iff.1 h).2; omega
set_option maxHeartbeats 1000000 in
theorem do_post (A : Option Addr) (n c : Nat) (NS : List Note) (cap : Int) (lag cl : Bool) (x : Note) (w : World) (h : TL w A n c NS) (hxo : x.Ok) (b : Bool) (L : List Note) (lag' : Bool) (hp : Box.postD cap NS lag cl x = (b, L, lag')) :
    Calls Try.prog 23 #[.agg #[.int .i64 cap, .slice A n c, .bool lag, .bool cl], .agg x.cells.toArray, .func (.func 24) #[] #[]] w fun e w' => (∃ A' c', e = .returned (.tuple #[.agg #[.int .i64 cap, .slice A' L.length c', .bool lag', .bool cl], .agg x.cells.toArray, .bool b]) ∧ TL w' A' L.length c' L ∧ ∀ ad, A' = some ad → w.heap.size ≤ ad.block) ∧ Ext w w' := by
  have hl := h.len
  refine do_any 24 (cf_of Try.func24 (by kernel_rfl) (by kernel_rfl)) A n c NS cap lag cl x b L lag' cl x w h hxo hxo (fun hm w0 W B base A1 c1 k0 hB hb hbW R hown hne => ?_) (fun hm => ?_)
  · have hv : Box.postW cap NS lag cl x = (b, L, lag') := by rw [← hp]; unfold Box.postD; rw [if_pos hm]
    have h8 := may_len hm
    have hLo := Box.postW_ok (cap := cap) (lag := lag) (cl := cl) h.ok hxo
    have hLl := Box.postW_len (cap := cap) (l := NS) (lag := lag) (cl := cl) (x := x)
    rw [hv] at hLo hLl
    refine (wpost_any B base cap A1 n c1 lag cl x NS w0 W k0 hB R hxo hown hb hbW hne hl (by omega) h.ok b L lag' hv).mono ?_
    rintro e w5 ⟨⟨A', c', rfl, R5, hO⟩, hx⟩
    obtain ⟨A6, c6, e6, hT, hf⟩ := TL.own hO (by simp at hLl; omega) rfl hLo
    obtain ⟨rfl, rfl⟩ : A' = A6 ∧ c' = c6 := by simpa using e6
    exact ⟨⟨_, _, rfl, R5, hT, hf⟩, hx⟩
  · have hv : Box.postD cap NS lag cl x = (false, NS, lag) := by unfold Box.postD; rw [if_neg (by rw [hm]; simp)]
    rw [hp] at hv
    obtain ⟨rfl, rfl, rfl⟩ : b = false ∧ L = NS ∧ lag' = lag := by simpa using hv
    exact ⟨rfl, rfl, rfl, rfl, rfl⟩
set_option maxHeartbeats 1000000 in
theorem do_take (A : Option Addr) (n c : Nat) (NS : List Note) (cap : Int) (lag cl : Bool) (w : World) (h : TL w A n c NS) (b : Bool) (L : List Note) (x' : Note) (hp : Box.takeD cap NS = (b, L, x')) :
    Calls Try.prog 23 #[.agg #[.int .i64 cap, .slice A n c, .bool lag, .bool cl], .agg zNote, .func (.func 25) #[] #[]] w fun e w' => (∃ A' c', e = .returned (.tuple #[.agg #[.int .i64 cap, .slice A' L.length c', .bool lag, .bool cl], .agg x'.cells.toArray, .bool b]) ∧ TL w' A' L.length c' L ∧ ∀ ad, A' = some ad → w.heap.size ≤ ad.block) ∧ Ext w w' := by
  have hl := h.len
  have hx' : x'.Ok := by
    have : (Box.takeD cap NS).2.2.Ok := by unfold Box.takeD; split; exact Box.takeW_ok h.ok Note.zero_ok; exact Note.zero_ok
    rw [hp] at this; exact this
  refine do_any 25 (cf_of Try.func25 (by kernel_rfl) (by kernel_rfl)) A n c NS cap lag cl Note.zero b L lag cl x' w h Note.zero_ok hx' (fun hm w0 W B base A1 c1 k0 hB hb hbW R hown hne => ?_) (fun hm => ?_)
  · have hv : Box.takeW NS Note.zero = (b, L, x') := by rw [← hp]; unfold Box.takeD; rw [if_pos hm]
    have h8 := may_len hm
    exact (wtake_any B base cap A1 n c1 lag cl Note.zero NS w0 W k0 hB R Note.zero_ok hown hne hl (by omega) h.ok b L x' hv).mono (fun e w5 h => h)
  · have hv : Box.takeD cap NS = (false, NS, Note.zero) := by unfold Box.takeD; rw [if_neg (by rw [hm]; simp)]
    rw [hp] at hv
    obtain ⟨rfl, rfl, rfl⟩ : b = false ∧ L = NS ∧ x' = Note.zero := by simpa using hv
    exact ⟨rfl, rfl, rfl, rfl, rfl⟩
set_option maxHeartbeats 1000000 in
theorem do_close (A : Option Addr) (n c : Nat) (NS : List Note) (cap : Int) (lag cl : Bool) (w : World) (h : TL w A n c NS) (b cl' : Bool) (hp : Box.closeD cap NS cl = (b, cl')) :
    Calls Try.prog 23 #[.agg #[.int .i64 cap, .slice A n c, .bool lag, .bool cl], .agg zNote, .func (.func 28) #[] #[]] w fun e w' => (∃ A' c', e = .returned (.tuple #[.agg #[.int .i64 cap, .slice A' NS.length c', .bool lag, .bool cl'], .agg Note.zero.cells.toArray, .bool b]) ∧ TL w' A' NS.length c' NS ∧ ∀ ad, A' = some ad → w.heap.size ≤ ad.block) ∧ Ext w w' := by
  have hl := h.len
  refine do_any 28 (cf_of Try.func28 (by kernel_rfl) (by kernel_rfl)) A n c NS cap lag cl Note.zero b NS lag cl' Note.zero w h Note.zero_ok Note.zero_ok (fun hm w0 W B base A1 c1 k0 hB hb hbW R hown hne => ?_) (fun hm => ?_)
  · have hv : Box.closeD cap NS cl = (!cl, true) := by unfold Box.closeD; rw [if_pos hm]
    rw [hp] at hv
    obtain ⟨rfl, rfl⟩ : b = (!cl) ∧ cl' = true := by simpa using hv
    have h8 := may_len hm
    exact (wclose_any B base cap A1 n c1 lag cl Note.zero NS w0 W k0 hB R hown hne hl (by omega) h.ok).mono (fun e w5 h => h)
  · have hv : Box.closeD cap NS cl = (false, cl) := by unfold Box.closeD; rw [if_neg (by rw [hm]; simp)]
    rw [hp] at hv
    obtain ⟨rfl, rfl⟩ : b = false ∧ cl' = cl := by simpa using hv
    exact ⟨rfl, rfl, rfl, rfl, rfl⟩
end Go.Proofs.Ytfngnajcmdaphaa
