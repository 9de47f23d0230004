/- BoxTakes: all notes of a box are taken one by one, in order; then there is none, and all else is as it was; for every box. -/
import Derived.Test.YtfngnajcmdaphaaBoxNotes
namespace Go.Proofs.Ytfngnajcmdaphaa
open Go.RowKit Go.WideShapes Go.ChangeShapes Go.Joins Go.Deep
set_option linter.unusedVariables false
set_option linter.unusedSimpArgs false









theorem TL.grown {w w' : World} {row : Option Nat} {A : Option Addr} {n c : Nat} {NS : List Note} (h : TL w A n c NS) (hg : w.grownBy w' row) (hne : ∀ ad, A = some ad → row ≠ some ad.block) : TL w' A n c NS :=
  ⟨⟨h.row.len, h.row.cap, h.row.room, h.row.wide, h.row.nil, fun hn => by
    obtain ⟨b, off, e, hc⟩ := h.row.cells hn
    refine ⟨b, off, e, fun i hi j v hv => ?_⟩
    exact grown_cell hg (hc i hi j v hv) (hne _ e)⟩, h.ok, h.bytes⟩
/-- A box of four cells, whose slice lies so. -/
structure Box4 (wr : World) (X4 : Nat) (bk : Int) (A' : Option Addr) (m c' : Nat) (bg bd : Bool) : Prop where
  c0 : wr.cell? ⟨X4, 0, none⟩ = some (.int .i64 bk)
  c1 : wr.cell? ⟨X4, 1, none⟩ = some (.slice A' m c')
  c2 : wr.cell? ⟨X4, 2, none⟩ = some (.bool bg)
  c3 : wr.cell? ⟨X4, 3, none⟩ = some (.bool bd)
  f : ∀ o, wr.frozen? ⟨X4, o, none⟩ = false
theorem Box4.ext {wr w' : World} {X4 m c' : Nat} {bk : Int} {A' : Option Addr} {bg bd : Bool} (h : Box4 wr X4 bk A' m c' bg bd) (k : Ext wr w') : Box4 w' X4 bk A' m c' bg bd :=
  ⟨k.cell h.c0, k.cell h.c1, k.cell h.c2, k.cell h.c3, k.free h.c0 h.f⟩
theorem Box4.grown {wr w' : World} {X4 m c' : Nat} {bk : Int} {A' : Option Addr} {bg bd : Bool} (h : Box4 wr X4 bk A' m c' bg bd) {row : Option Nat} (hg : wr.grownBy w' row) (hne : row ≠ some X4) : Box4 w' X4 bk A' m c' bg bd :=
  ⟨grown_cell hg h.c0 hne, grown_cell hg h.c1 hne, grown_cell hg h.c2 hne, grown_cell hg h.c3 hne, fun o => grown_free hg h.c0 hne (h.f o)⟩
theorem Box4.set {wr : World} {X4 m c' m2 c2 : Nat} {bk bk2 : Int} {A' A2 : Option Addr} {bg bd bg2 bd2 : Bool} (h : Box4 wr X4 bk A' m c' bg bd) :
    Box4 ((((wr.setCell ⟨X4, 0, none⟩ (.int .i64 bk2)).setCell ⟨X4, 1, none⟩ (.slice A2 m2 c2)).setCell ⟨X4, 2, none⟩ (.bool bg2)).setCell ⟨X4, 3, none⟩ (.bool bd2)) X4 bk2 A2 m2 c2 bg2 bd2 := by
  have R := set4_range (a := .int .i64 bk2) (b := .slice A2 m2 c2) (c := .bool bg2) (d := .bool bd2) h.c0 h.c1 h.c2 h.c3
  exact ⟨by simpa using R 0 _ rfl, by simpa using R 1 _ rfl, by simpa using R 2 _ rfl, by simpa using R 3 _ rfl, fun o => by simp [h.f o]⟩
theorem TL.set4 {w : World} {A : Option Addr} {n c : Nat} {NS : List Note} {X : Nat} (h : TL w A n c NS) (hne : ∀ ad, A = some ad → ad.block ≠ X) (a b c' d : Value) : TL ((((w.setCell ⟨X, 0, none⟩ a).setCell ⟨X, 1, none⟩ b).setCell ⟨X, 2, none⟩ c').setCell ⟨X, 3, none⟩ d) A n c NS :=
  (((h.setCell (p := ⟨X, 0, none⟩) hne a).setCell (p := ⟨X, 1, none⟩) hne b).setCell (p := ⟨X, 2, none⟩) hne c').setCell (p := ⟨X, 3, none⟩) hne d
theorem ext_set4 {w W : World} {X : Nat} (k : Ext w W) (hX : w.heap.size ≤ X) (a b c d : Value) : Ext w ((((W.setCell ⟨X, 0, none⟩ a).setCell ⟨X, 1, none⟩ b).setCell ⟨X, 2, none⟩ c).setCell ⟨X, 3, none⟩ d) :=
  (((k.setCell (p := ⟨X, 0, none⟩) hX a).setCell (p := ⟨X, 1, none⟩) hX b).setCell (p := ⟨X, 2, none⟩) hX c).setCell (p := ⟨X, 3, none⟩) hX d
theorem own_set4 {w : World} {base n size : Nat} {e : TypeId} {v : Value} {xs : List Value} {X : Nat} (h : w.ownsRow base e size v n xs) (hX : v.ownBlock ≠ some X) (a b c d : Value) : ((((w.setCell ⟨X, 0, none⟩ a).setCell ⟨X, 1, none⟩ b).setCell ⟨X, 2, none⟩ c).setCell ⟨X, 3, none⟩ d).ownsRow base e size v n xs :=
  own_setCell' (a := ⟨X, 3, none⟩) (own_setCell' (a := ⟨X, 2, none⟩) (own_setCell' (a := ⟨X, 1, none⟩) (own_setCell' (a := ⟨X, 0, none⟩) h hX a) hX b) hX c) hX d
/-- The loop's hold. -/
structure TakesRel (w1 : World) (X4 n : Nat) (bk : Int) (bg bd : Bool) (b : List Note) (q : Value) (wr : World) (i : Nat) (A' : Option Addr) (c' : Nat) : Prop where
  box : Box4 wr X4 bk A' (n - i) c' bg bd
  tl : TL wr A' (n - i) c' (b.drop i)
  own : wr.ownsRow (X4 + 1) 33 66 q i (flatT (b.take i))
  ext : Ext w1 wr
theorem own_off {w : World} {base k : Nat} {e : TypeId} {size : Nat} {v : Value} {n : Nat} {xs : List Value} (h : w.ownsRow base e size v n xs) (hk : k < base ∨ w.heap.size ≤ k) : v.ownBlock ≠ some k := fun h' => by
  have := h.lt _ h'
  omega


set_option maxHeartbeats 4000000 in
theorem BoxTakes_walk {w : World} (bA : Option Addr) (bn bc : Nat) (b : List Note) (bk : Int) (bg bd : Bool) (hb : TL w bA bn bc b) (k1 : -9223372036854775808 ≤ bk) (k2 : bk ≤ 9223372036854775807) :
    Calls Try.prog 5 #[.agg #[.int .i64 bk, .slice bA bn bc, .bool bg, .bool bd]] w fun e' w' => e' = .returned (.bool true) ∧ Ext w w' := by
  have HAW := Lib.hid (fun W => awake_any W)
  have HM := Lib.hid (fun W (k : Ext w W) => bmay_any bA bn bc b bk bg bd W (hb.ext k))
  cases hm : Box.mayV bk b with
  | false =>
    rw [hm] at HM
    clear hm hb
    go_enter Try.func5, Try.ntmps5
    go_wp2_with fail
    refine (HAW.out _).mono ?_
    rintro e w0 ⟨rfl, hx0⟩
    have k0 : Ext w w0 := Ext.trans ((by repeat (first | assumption | exact Ext.refl _ | refine Ext.alloc ?_ _ | refine Ext.drew ?_ | refine Ext.drewN ?_ _ | refine Ext.setCell ?_ (by first | (simp; done) | omega | (simp; omega)) _ | refine Ext.trans (by assumption) ?_))) hx0
    obtain ⟨u0, u1, u2, u3, uf⟩ := (hx0).box4 (B := w.heap.size) (a := .int .i64 bk) (b := .slice bA bn bc) (c := .bool bg) (d := .bool bd) (by simp (maxDischargeDepth := 7) [go_sem]) (by simp (maxDischargeDepth := 7) [go_sem]) (by simp (maxDischargeDepth := 7) [go_sem]) (by simp (maxDischargeDepth := 7) [go_sem]) (fun o => by simp (maxDischargeDepth := 7) [go_sem])
    have ul := lt_of_cell u0
    go_wp2_with fail
    refine (HM.out _ k0).mono ?_
    rintro e w1 ⟨rfl, hx1⟩
    go_wp2
    go_ret
    exact ⟨rfl, k0.trans hx1⟩
  | true =>
    rw [hm] at HM
    have hlen := hb.len
    have h8 := may_len hm
    have HB := Lib.hid (fun W (k : Ext w W) => hb.ext k)
    have HTK := Lib.hid (fun i (hi : i < bn) W A c (h : TL W A (bn - i) c (b.drop i)) => (by have k := btake_fresh A (bn - i) c (b.drop i) bk bg bd W h _ _ _ (hb.okAt i) (Box.take_drop hm (by rw [hlen]; exact hi)); rw [List.length_drop, hlen] at k; exact k : Calls Try.prog 12 #[.agg #[.int .i64 bk, .slice A (bn - i) c, .bool bg, .bool bd]] W fun e w' => (∃ A' c', e = .returned (.tuple #[.agg #[.int .i64 bk, .slice A' (bn - (i + 1)) c', .bool bg, .bool bd], .agg (Box.nt b i).cells.toArray, .bool true]) ∧ TL w' A' (bn - (i + 1)) c' (b.drop (i + 1)) ∧ ∀ ad, A' = some ad → W.heap.size ≤ ad.block) ∧ Ext W w'))
    have HOK := Lib.hid (fun i => hb.okAt i)
    have HOKL := Lib.hid hb.ok
    have HTS := Lib.hid (fun i (hi : i < bn) => Box.take_snoc (l := b) (i := i) (by rw [hlen]; exact hi))
    have HLN := Lib.hid hlen
    have HNE := Lib.hid (fun (ad : Addr) (e : bA = some ad) (hn : 0 < bn) => (by obtain ⟨b0, o0, e0, hr, hok⟩ := hb.at' (i := 0) hn; rw [e] at e0; cases e0; have hq := hr 0 _ (Note.at0 _); exact lt_of_cell hq : ad.block < w.heap.size))
    rw [hlen] at h8
    have hzn := zeroNote
    have hzs := zNote_size
    have hze := zNote_ne
    clear hm hlen hb
    go_enter Try.func5, Try.ntmps5
    go_wp2_with fail
    refine (HAW.out _).mono ?_
    rintro e w0 ⟨rfl, hx0⟩
    have k0 : Ext w w0 := Ext.trans ((by repeat (first | assumption | exact Ext.refl _ | refine Ext.alloc ?_ _ | refine Ext.drew ?_ | refine Ext.drewN ?_ _ | refine Ext.setCell ?_ (by first | (simp; done) | omega | (simp; omega)) _ | refine Ext.trans (by assumption) ?_))) hx0
    obtain ⟨u0, u1, u2, u3, uf⟩ := (hx0).box4 (B := w.heap.size) (a := .int .i64 bk) (b := .slice bA bn bc) (c := .bool bg) (d := .bool bd) (by simp (maxDischargeDepth := 7) [go_sem]) (by simp (maxDischargeDepth := 7) [go_sem]) (by simp (maxDischargeDepth := 7) [go_sem]) (by simp (maxDischargeDepth := 7) [go_sem]) (fun o => by simp (maxDischargeDepth := 7) [go_sem])
    have ul := lt_of_cell u0
    go_wp2_with fail
    refine (HM.out _ k0).mono ?_
    rintro e w1 ⟨rfl, hx1⟩
    replace uf := (hx1).free u0 uf
    replace u0 := (hx1).cell u0
    replace u1 := (hx1).cell u1
    replace u2 := (hx1).cell u2
    replace u3 := (hx1).cell u3
    replace ul := lt_of_cell u0
    have kk1 := k0.trans hx1
    clear HM hx0 hx1 k0
    go_wp2
    have HU := Lib.hid (Box4.mk u0 u1 u2 u3 uf)
    have hX0 : w.heap.size < w1.heap.size := ul
    have hstart : ∃ A c, TakesRel w1 w1.heap.size bn bk bg bd b (.slice none 0 0) (w1.alloc (.cells #[.int .i64 bk, .slice bA bn bc, .bool bg, .bool bd] 24)) 0 A c :=
      ⟨bA, bc, ⟨by simp, by simp, by simp, by simp, fun o => frozen_new _ _ _ _⟩, HB.out _ (kk1.alloc _), World.ownsRow_nil _ _ _ _, (Ext.refl _).alloc _⟩
    have HST := Lib.hid hstart
    clear hstart u0 u1 u2 u3 uf ul
    obtain ⟨X4, hX4⟩ : ∃ X4, X4 = w1.heap.size := ⟨_, rfl⟩
    have hX04 : w.heap.size < X4 := by omega
    have hwX : w1.heap.size ≤ X4 := by omega
    rw [← hX4] at HST ⊢
    generalize hW0 : w1.alloc (.cells #[.int .i64 bk, .slice bA bn bc, .bool bg, .bool bd] 24) = W0 at HST ⊢
    clear hX4 hW0
    go_loopw [5, 6, 7, 8, 9] (fun q i' _ _ _ wr => ∃ i A' c', i ≤ bn ∧ i' = .int .i64 (i : Nat) ∧ TakesRel w1 X4 bn bk bg bd b q wr i A' c') (fun _ i' _ _ _ _ => bn - (intOf i').toNat)
    case atStart =>
      obtain ⟨A, c, h⟩ := HST.out
      exact ⟨0, A, c, Nat.zero_le _, rfl, h⟩
    case round =>
      obtain ⟨i, A', c', hi, rfl, R⟩ := hrel
      have kr := R.ext
      have hu := HU.out.ext kr
      have u0 := hu.c0
      have u1 := hu.c1
      have u2 := hu.c2
      have u3 := hu.c3
      have uf := hu.f
      have ul := lt_of_cell u0
      have v0 := R.box.c0
      have v1 := R.box.c1
      have v2 := R.box.c2
      have v3 := R.box.c3
      have vf := R.box.f
      have vl := lt_of_cell v0
      have hvl := vl
      have HTL := Lib.hid R.tl
      have HOW := Lib.hid R.own
      have HBX := Lib.hid R.box
      have HBU := Lib.hid hu
      have hroom : i ≤ 8 := by omega
      clear R hu
      by_cases hlt : i < bn
      · have gi : (i : Int) < bn := by omega
        have hxo := HOK.out i
        obtain ⟨x, hx⟩ : ∃ x, Box.nt b i = x := ⟨_, rfl⟩
        have HT := HTK.out i hlt
        rw [hx] at HT
        have hts := HTS.out i hlt
        rw [hx] at hts
        change (Box.nt b i).Ok at hxo
        rw [hx] at hxo
        have HT := Lib.hid HT
        have HTS' := Lib.hid hts
        clear hx hts
        have hx66 : x.cells.length = 66 := Note.len hxo
        have hj66 : (Try.prog.info? 33).map (·.size) = some x.cells.length := by rw [hx66]; kernel_rfl
        obtain ⟨m, hm⟩ : ∃ m, bn - i = m := ⟨_, rfl⟩
        obtain ⟨m', hm'⟩ : ∃ m', bn - (i + 1) = m' := ⟨_, rfl⟩
        rw [hm] at HTL HBX HT v1
        rw [hm'] at HT
        have HMM := Lib.hid hm'
        clear hm hm'
        go_wp2_with fail
        refine (HT.out wr _ _ HTL.out).mono ?_
        rintro e w2 ⟨⟨A2, c2, rfl, h2, hf2⟩, hx2⟩
        replace uf := (hx2).free u0 uf
        replace u0 := (hx2).cell u0
        replace u1 := (hx2).cell u1
        replace u2 := (hx2).cell u2
        replace u3 := (hx2).cell u3
        replace ul := lt_of_cell u0
        replace vf := (hx2).free v0 vf
        replace v0 := (hx2).cell v0
        replace v1 := (hx2).cell v1
        replace v2 := (hx2).cell v2
        replace v3 := (hx2).cell v3
        replace vl := lt_of_cell v0
        have hz2 := hx2.size
        have kA : Ext w2 (((((w2.alloc (.cells #[.int .i64 bk, .slice A2 m' c2, .bool bg, .bool bd] 24)).alloc (.cells x.cells.toArray 33))).alloc (.cells x.cells.toArray 33))) := (by repeat (first | assumption | exact Ext.refl _ | refine Ext.alloc ?_ _ | refine Ext.drew ?_ | refine Ext.drewN ?_ _ | refine Ext.setCell ?_ (by first | (simp; done) | omega | (simp; omega)) _ | refine Ext.trans (by assumption) ?_))
        have rX : World.rangeAt (((w2.alloc (.cells #[.int .i64 bk, .slice A2 m' c2, .bool bg, .bool bd] 24)).alloc (.cells x.cells.toArray 33))) (w2.heap.size + 1) 0 x.cells := range_at (w := w2.alloc _) (B := w2.heap.size + 1) x.cells 33 (by simp)
        have HSRC : Src (((((w2.alloc (.cells #[.int .i64 bk, .slice A2 m' c2, .bool bg, .bool bd] 24)).alloc (.cells x.cells.toArray 33))).alloc (.cells x.cells.toArray 33))) 66 (some ⟨w2.heap.size + 1 + 1, 0, none⟩) 1 1 x.cells := src_atN (by rw [hx66]) (Note.one x) (by simp)
        have bY8 : Box4 (((((w2.alloc (.cells #[.int .i64 bk, .slice A2 m' c2, .bool bg, .bool bd] 24)).alloc (.cells x.cells.toArray 33))).alloc (.cells x.cells.toArray 33))) w2.heap.size bk A2 m' c2 bg bd := Box4.ext (wr := w2.alloc (.cells #[.int .i64 bk, .slice A2 m' c2, .bool bg, .bool bd] 24)) ⟨by simp, by simp, by simp, by simp, fun o => frozen_new _ _ _ _⟩ (((Ext.refl _).alloc _).alloc _)
        have bX8 := HBX.out.ext (hx2.trans kA)
        have bU8 := HBU.out.ext (hx2.trans kA)
        have hown8 := own_ext HOW.out (hx2.trans kA)
        have hneX : u5.ownBlock ≠ some X4 := own_off HOW.out (.inl (by omega))
        have hneU : u5.ownBlock ≠ some w.heap.size := own_off HOW.out (.inl (by omega))
        have hneY : u5.ownBlock ≠ some w2.heap.size := own_off HOW.out (.inr hz2)
        have hT8 := h2.ext kA
        have hne2 : ∀ ad, A2 = some ad → u5.ownBlock ≠ some ad.block := fun ad e => own_off HOW.out (.inr (hf2 ad e))
        have hX2 : ∀ ad, A2 = some ad → ad.block ≠ X4 := fun ad e => by have := hf2 ad e; omega
        have kr8 : Ext w1 (((((w2.alloc (.cells #[.int .i64 bk, .slice A2 m' c2, .bool bg, .bool bd] 24)).alloc (.cells x.cells.toArray 33))).alloc (.cells x.cells.toArray 33))) := kr.trans (hx2.trans kA)
        have hs9 : X4 + 1 ≤ (((((w2.alloc (.cells #[.int .i64 bk, .slice A2 m' c2, .bool bg, .bool bd] 24)).alloc (.cells x.cells.toArray 33))).alloc (.cells x.cells.toArray 33))).heap.size := by simp; omega
        have hfrom := own_from HOW.out
        have HALL := Lib.hid (And.intro bX8 (And.intro bU8 (And.intro bY8 (And.intro hown8 (And.intro hneX (And.intro hneU (And.intro hneY (And.intro hT8 (And.intro hne2 (And.intro hX2 (And.intro kr8 (And.intro hfrom hs9))))))))))))
        have hbuild : List.foldl (fun (c : Array Value) (x : Value × Nat) => c.setIfInBounds x.snd x.fst) zNote x.cells.zipIdx = x.cells.toArray := fold_put0 (by rw [hx66]; rfl)
        clear bX8 bU8 bY8 hown8 hneX hneU hneY hT8 hne2 hX2 kr8 hfrom hs9 h2 hf2 kA
        go_upto_region 13 with (first | (refine wpList_store_mid rfl 33 _ _ rfl _ 0 x.cells.toArray rfl rfl (there_at (by simp) _ (by rw [List.size_toArray, hx66]; decide)) (by rw [List.size_toArray]; exact hj66) (all_oneCell_toArray (Note.one x)) ?_; rw [List.toList_toArray, setCells_at (by simp) (by rw [hx66]; rfl)]) | (refine wpList_load_mid rfl 33 _ rfl _ _ rfl x.cells _ rX Try.underlying33 rfl hj66 ?_) | (refine wpList_build1 rfl _ rfl x.cells rfl hx66 (w2.heap.size + 1 + 1) (by simp) ?_) | (at_builtin; refine wpList_app rowNotes rfl _ _ rfl (X4 + 1) u5 i (flatT (b.take i)) rfl HALL.out.2.2.2.1 (some ⟨w2.heap.size + 1 + 1, 0, none⟩) 1 1 x.cells rfl HSRC (by omega) HALL.out.2.2.2.2.2.2.2.2.2.2.2.2 ?_; intro q5 w5 hown5 hgrow5 hat5; have bX := HALL.out.1.grown hgrow5 HALL.out.2.2.2.2.1; have bY := HALL.out.2.2.1.grown hgrow5 HALL.out.2.2.2.2.2.2.1; have y0 := bY.c0; have y1 := bY.c1; have y2 := bY.c2; have y3 := bY.c3; have x0 := bX.c0; have x1 := bX.c1; have x2 := bX.c2; have x3 := bX.c3; have xf := bX.f))
        obtain ⟨_, _, _, _, hneX, hneU, hneY, hT8, hne2, hX2, kr8, hfrom, hs9⟩ := HALL.out
        have hqX : q5.ownBlock ≠ some X4 := own_off hown5 (.inl (by omega))
        have hT6 := hT8.grown hgrow5 hne2
        have k6 : Ext w1 w5 := kr8.grown hgrow5 (fun k hk => by have := hfrom k hk; omega)
        have hown6 : w5.ownsRow (X4 + 1) 33 66 q5 (i + 1) (flatT (b.take (i + 1))) := by rw [HTS'.out, flatT_snoc]; exact hown5
        have HFIN : Hid (TakesRel w1 X4 bn bk bg bd b q5 ((((w5.setCell ⟨X4, 0, none⟩ (.int .i64 bk)).setCell ⟨X4, 1, none⟩ (.slice A2 m' c2)).setCell ⟨X4, 2, none⟩ (.bool bg)).setCell ⟨X4, 3, none⟩ (.bool bd)) (i + 1) A2 c2) := by
          refine ⟨?_, ?_, own_set4 hown6 hqX _ _ _ _, ext_set4 k6 hwX _ _ _ _⟩
          · rw [HMM.out]; exact bX.set
          · rw [HMM.out]; exact hT6.set4 hX2 _ _ _ _
        clear hneX hneU hneY hT8 hne2 hX2 kr8 hfrom hs9 HALL hqX hT6 k6 hown6 hown5 hgrow5 hat5 bX bY rX HSRC hbuild HT HTS' HTL HOW HBX HBU
        clear u0 u1 u2 u3 uf ul v0 v1 v2 v3 vf vl hvl hz2 hx2
        go_wp2
        go_roundw
        case rel => first | exact ⟨i + 1, A2, c2, by omega, by go_num, HFIN.out⟩ | (refine ⟨_, _, _, _, _, ⟨i + 1, A2, c2, by omega, ?_, HFIN.out⟩, rfl, rfl, rfl, rfl, rfl⟩; go_num)
        case measure => simp [intOf]; omega
      · obtain rfl : i = bn := by omega
        have hO := HOW.out
        rw [List.take_of_length_le (by rw [HLN.out]; exact Nat.le_refl _)] at hO
        obtain ⟨A5, c5, e5, hT5, _⟩ := TL.own hO (by omega) HLN.out HOKL.out
        subst e5
        have HN := Lib.hid (fun W (k : Ext wr W) => (by have k0 := rnotes_any A5 i c5 bA i bc b b W (hT5.ext k) (HB.out _ (kk1.trans (kr.trans k))); rw [show eqT b b = true by simp [eqT]] at k0; exact k0 : Calls Try.prog 14 #[.slice A5 i c5, .slice bA i bc] W fun e w' => e = .returned (.bool true) ∧ Ext W w'))
        rw [Nat.sub_self] at v1
        clear HTL HOW HBX HBU hO hT5 HTK HOK HTS HST HU
        go_wp2_with fail
        refine (HN.out _ (Ext.refl _)).mono ?_
        rintro e w2 ⟨rfl, hx2⟩
        replace uf := (hx2).free u0 uf
        replace u0 := (hx2).cell u0
        replace u1 := (hx2).cell u1
        replace u2 := (hx2).cell u2
        replace u3 := (hx2).cell u3
        replace ul := lt_of_cell u0
        replace vf := (hx2).free v0 vf
        replace v0 := (hx2).cell v0
        replace v1 := (hx2).cell v1
        replace v2 := (hx2).cell v2
        replace v3 := (hx2).cell v3
        replace vl := lt_of_cell v0
        go_wp2
        go_ret
        exact ⟨rfl, kk1.trans (kr.trans hx2)⟩
set_option maxRecDepth 100000 in
theorem BoxTakes_lifted (os : Os) (started : os.Started) (H : Type) (enc : TypeId × Value → H) :
    ReturnsInHanded {} Try.checked os 5 .any (Rows.boxTakesSpec.pre6 enc Try.prog Try.f5 Rows.boxTakesRow.domain false) (Rows.boxTakesSpec.post enc Try.prog Try.f5 false true false false) := by
  refine returnsInHanded_of_change_sized (C := Try.checked) own started (by kernel_rfl) Try.func5
    (ChangeSpec.witness6 (enc := enc) (C := Try.checked) false ⟨#[], #[.agg #[.int .i64 0, .slice none 0 0, .bool false, .bool false]], []⟩ 8 (by kernel_rfl) (by kernel_rfl) (by kernel_rfl) (by kernel_rfl)) ?_
  intro W base args ds gs before hval0 hW _hcnd hsz0 _
  have hval : ∀ (j : Nat) t v, Try.f5.params[j]? = some t → args[j]? = some v → Value.okWide Try.prog W .any base t v := hval0
  have hsz : (DataW.weightsEach Try.prog (Try.f5.params.toList ++ Rows.boxTakesSpec.plain.varTypes Try.prog) (ds ++ gs)).all (· ≤ reachBytes) = true := hsz0
  have hW' := hW
  obtain ⟨p, q, hA0, hV, rfl, hfz, hnd⟩ := hW
  have hA : DataW.TrodAll enc Try.prog W 0 (fun _ => true) true Try.f5.params.toList args.toList ds p := hA0
  rw [Try.params5] at hA hval hsz
  obtain ⟨v0, vs0, d0, ds0, p0, q0, hargs, rfl, rfl, h0, r0⟩ := trodAll_cons hA
  obtain ⟨rfl, rfl, rfl⟩ := trodAll_nil r0
  obtain rfl : args = #[v0] := by cases args; simp_all
  obtain ⟨rfl, rfl⟩ := trodVars_none hV
  have h0k := h0
  have hlt0 : ∀ x ∈ p0, x.block < W.heap.size := fun x hx => by have := hW'.lt x (by simp [hx]); simpa using this
  obtain ⟨bA, bn, bc, b, bk, bg, bd, rfl, hb, hkb1, hkb2⟩ := open_box (hval 0 24 v0 rfl rfl) h0 hsz (j := 0) rfl rfl
  clear hA0 hval0
  simp only [List.append_nil] at hW'
  refine (BoxTakes_walk bA bn bc b bk bg bd hb hkb1 hkb2 (w := W)).mono fun e W' ⟨he, hg⟩ => ?_
  subst he
  exact ⟨_, rfl, post_law (pa := p0 ++ []) (pv := []) hW' (fun _ _ _ => (trodAll_cons_mk (shut_bool Try.underlying4 _) trodAll_mk0))
    (trodAll_cons_mk (Below.trod laidOut (by kernel_rfl) (of_decide_eq_true (by kernel_rfl)) h0k hg.out hlt0) trodAll_mk0) rfl (by simp) hg⟩
theorem BoxTakes_holds : Rows.BoxTakesSaid :=
  OpenClaim.holds_of_wide 5 Try.f5 rfl rfl rfl rfl rfl rfl rfl ⟨rfl, rfl, rfl, rfl, rfl⟩ rfl rfl rfl rfl rfl (by kernel_rfl) Try.func5 (by kernel_rfl)
    (of_decide_eq_true (by kernel_rfl)) (by unfold Func.isWrapper; first | (rw [if_pos (by decide +kernel)]; kernel_rfl) | (rw [if_neg (by decide +kernel)]; exact ⟨rfl, rfl⟩))
    (fun os started H enc _ => BoxTakes_lifted os started H enc)
#print axioms BoxTakes_holds
end Go.Proofs.Ytfngnajcmdaphaa
