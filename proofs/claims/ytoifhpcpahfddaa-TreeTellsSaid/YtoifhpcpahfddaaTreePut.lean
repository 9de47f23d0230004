/- The contract of layer 6: Insert. -/
import Derived.Test.YtoifhpcpahfddaaTreeOwn
namespace Go.Proofs.Ytoifhpcpahfddaa
open Go.RowKit Go.WideShapes Go.ChangeShapes
set_option linter.unusedVariables false
set_option linter.unusedSimpArgs false





namespace Tree
def putE (T : List Node) (b : Block) : Int :=
  if mayV T = true then
    if b.root ∈ roots T then 4
    else if b.up ∈ roots T then
      if b.slot ≤ (nd T ((roots T).idxOf b.up)).slot ∨ 1099511627776 < b.slot then 6
      else if T.length = 12 then 3 else 0
    else 5
  else 1
def putN (T : List Node) (b : Block) : Node := ⟨b.root, ((roots T).idxOf b.up : Nat), b.slot, b.just⟩
def putV (T : List Node) (b : Block) : List Node := if putE T b = 0 then T ++ [putN T b] else T
end Tree
theorem build_node {r : List Int} (h : RootOk r) (p : Int) (s j : Nat) : (((List.foldl (fun (cs : Array Value) (x : Value × Nat) => cs.setIfInBounds x.snd x.fst) (#[Value.int .u8 0, Value.int .u8 0, Value.int .u8 0, Value.int .u8 0, Value.int .u8 0, Value.int .u8 0, Value.int .u8 0, Value.int .u8 0, Value.int .u8 0, Value.int .u8 0, Value.int .u8 0, Value.int .u8 0, Value.int .u8 0, Value.int .u8 0, Value.int .u8 0, Value.int .u8 0, Value.int .u8 0, Value.int .u8 0, Value.int .u8 0, Value.int .u8 0, Value.int .u8 0, Value.int .u8 0, Value.int .u8 0, Value.int .u8 0, Value.int .u8 0, Value.int .u8 0, Value.int .u8 0, Value.int .u8 0, Value.int .u8 0, Value.int .u8 0, Value.int .u8 0, Value.int .u8 0, Value.int .i64 0, Value.int .u64 0, Value.int .u64 0]) (rootC r).zipIdx).setIfInBounds 32 (.int .i64 p)).setIfInBounds 33 (.int .u64 s)).setIfInBounds 34 (.int .u64 j) = (Node.cells ⟨r, p, s, j⟩).toArray := by
  have hr := rootC_len h
  have hf := fold_put (rootC r) 0 0 (#[Value.int .u8 0, Value.int .u8 0, Value.int .u8 0, Value.int .u8 0, Value.int .u8 0, Value.int .u8 0, Value.int .u8 0, Value.int .u8 0, Value.int .u8 0, Value.int .u8 0, Value.int .u8 0, Value.int .u8 0, Value.int .u8 0, Value.int .u8 0, Value.int .u8 0, Value.int .u8 0, Value.int .u8 0, Value.int .u8 0, Value.int .u8 0, Value.int .u8 0, Value.int .u8 0, Value.int .u8 0, Value.int .u8 0, Value.int .u8 0, Value.int .u8 0, Value.int .u8 0, Value.int .u8 0, Value.int .u8 0, Value.int .u8 0, Value.int .u8 0, Value.int .u8 0, Value.int .u8 0, Value.int .i64 0, Value.int .u64 0, Value.int .u64 0])
  simp only [Nat.zero_add] at hf
  rw [hf]
  apply Array.toList_inj.1
  rw [Array.toList_setIfInBounds, Array.toList_setIfInBounds, Array.toList_setIfInBounds, putAll_list _ _ _ (by rw [hr]; decide)]
  rw [Nat.zero_add, hr]
  unfold Node.cells
  have e : ∀ (L : List Value) (a b c x y z : Value), L.length = 32 → (((L ++ [a, b, c]).set 32 x).set 33 y).set 34 z = L ++ [x, y, z] := fun L a b c x y z hL => by
    rw [List.set_append_right _ _ (by omega), hL, List.set_append_right _ _ (by omega), hL, List.set_append_right _ _ (by omega), hL]
    rfl
  exact e (rootC r) _ _ _ _ _ _ hr
theorem size_putAll : ∀ (cs : List Value) (o : Nat) (cur : Array Value), (putAll cs o cur).size = cur.size := by
  intro cs
  induction cs with
  | nil => intro o cur; rfl
  | cons v vs ih => intro o cur; show (putAll vs (o + 1) _).size = _; rw [ih]; simp
theorem size_put0 (cs : List Value) (cur : Array Value) : (List.foldl (fun (c : Array Value) (x : Value × Nat) => c.setIfInBounds x.snd x.fst) cur cs.zipIdx).size = cur.size := by
  have hf := fold_put cs 0 0 cur
  simp only [Nat.zero_add] at hf
  rw [hf]
  exact size_putAll cs 0 cur
theorem nl_of_own {w : World} {base n c : Nat} {A : Option Addr} {NS : List Node} (h : w.ownsRow base 34 35 (.slice A n c) n (flatN NS)) (hn : n * 56 ≤ 140737488355328) (hl : NS.length = n) (hok : ∀ x ∈ NS, x.Ok) : NL w A n c NS := by
  obtain ⟨A', c', e, h, _⟩ := NL.own h hn hl hok
  obtain ⟨rfl, rfl⟩ : A = A' ∧ c = c' := by simpa using e
  exact h
theorem src_put {w : World} {B size m c : Nat} {e : TypeId} {xs : List Value} (hl : xs.length = m * size) (h1 : ∀ u ∈ xs, u.oneCell' = true) (hB : B = w.heap.size) : Src (w.alloc (.cells xs.toArray e)) size (some ⟨B, 0, none⟩) m c xs := by
  subst hB; exact src_new hl h1
theorem grownC {w w' : World} {row : Option Nat} {B o : Nat} {v : Value} (h : w.grownBy w' row) (hc : w.cell? ⟨B, o, none⟩ = some v) (hne : row ≠ some B) : w'.cell? ⟨B, o, none⟩ = some v := by
  rw [World.cell?_of_block (w := w) (h.block B (lt_of_cell hc) (fun e => hne e.symm))]; exact hc
theorem grownF {w w' : World} {row : Option Nat} {B o : Nat} {v : Value} (h : w.grownBy w' row) (hc : w.cell? ⟨B, o, none⟩ = some v) (hne : row ≠ some B) (hf : w.frozen? ⟨B, o, none⟩ = false) : w'.frozen? ⟨B, o, none⟩ = false := by
  rw [World.frozen?_of_block (w := w) (a := ⟨B, o, none⟩) (h.block B (lt_of_cell hc) (fun e => hne e.symm))]; exact hf
theorem own_setO {w : World} {base : Nat} {e : TypeId} {size : Nat} {v : Value} {n : Nat} {xs : List Value} (h : w.ownsRow base e size v n xs) {a : Addr} (ha : v.ownBlock ≠ some a.block) (u : Value) : (w.setCell a u).ownsRow base e size v n xs := by
  refine ⟨h.1, h.2.imp id ?_⟩
  rintro ⟨g, cap, cur, rfl, h1, h2, h3⟩
  refine ⟨g, cap, cur, rfl, h1, ?_, h3⟩
  rw [Below.heap_setCell w a u g (fun e => ha (by rw [e]; rfl))]
  exact h2



set_option maxRecDepth 100000 in
set_option maxHeartbeats 4000000 in
theorem insert_any (A : Option Addr) (n c : Nat) (NS : List Node) (b : Block) (hb : b.Ok) (w : World) (h : NL w A n c NS) :
    Calls Try.prog 18 #[.agg #[.slice A n c], .agg b.cells.toArray] w fun e w' => (∃ A2 m c2, e = .returned (.tuple #[.agg #[.slice A2 m c2], .int .i64 (Tree.putE NS b)]) ∧ NL w' A2 m c2 (Tree.putV NS b)) ∧ Ext w w' := by
  have hlen := h.len
  have hroom := h.row.room
  have HO := Lib.hid (fun W (k : Ext w W) => own_any A n c NS W (h.ext k))
  have HM := Lib.hid (fun x (hb : Tree.mayV NS = x) W (k : Ext w W) => treeMay_is A n c NS x hb W (h.ext k))
  have HI := Lib.hid (fun W (k : Ext w W) => index_any A n c NS W (h.ext k))
  have HV := Lib.hid (fun W (k : Ext w W) => h.ext k)
  have HBO := Lib.hid hb
  have HBY := Lib.hid h.bytes
  have HLE := Lib.hid hlen
  have HOK := Lib.hid h.ok
  have hi32 : (Try.prog.info? 32).map (·.size) = some (rootC b.root).length := by rw [rootC_len hb.1]; kernel_rfl
  have hj32 : (Try.prog.info? 32).map (·.size) = some (rootC b.up).length := by rw [rootC_len hb.2.1]; kernel_rfl
  clear h hb
  cases hm : Tree.mayV NS with
  | false =>
    have HE : Hid (Tree.putE NS b = 1) := by show _ = _; unfold Tree.putE; rw [hm, if_neg (by simp)]
    have HVV : Hid (Tree.putV NS b = NS) := by show _ = _; unfold Tree.putV; rw [HE.out, if_neg (by decide)]
    go_enter Try.func18, Try.ntmps18
    go_wp2_with fail
    refine (HO.out _ ((by repeat (first | assumption | exact Ext.refl _ | refine Ext.alloc ?_ _ | refine Ext.drew ?_ | refine Ext.drewN ?_ _ | refine Ext.setCell ?_ (by first | (simp; done) | omega | (simp; omega)) _ | refine Ext.trans (by assumption) ?_)))).mono ?_
    rintro e w1 ⟨⟨v, rfl, hown⟩, hx1⟩
    have k1 : Ext w w1 := Ext.trans ((by repeat (first | assumption | exact Ext.refl _ | refine Ext.alloc ?_ _ | refine Ext.drew ?_ | refine Ext.drewN ?_ _ | refine Ext.setCell ?_ (by first | (simp; done) | omega | (simp; omega)) _ | refine Ext.trans (by assumption) ?_))) hx1
    have t0 := hx1.cell (p := ⟨w.heap.size, 0, none⟩) (v := .slice A n c) (by simp (maxDischargeDepth := 7) [go_sem])
    have rB : w1.rangeAt (w.heap.size + 1) 0 b.cells := rangeAt_ext (rangeAt_ext (range_at (w := w.alloc (.cells #[.slice A n c] 24)) (B := w.heap.size + 1) b.cells 44 (by simp)) ((Ext.refl _).alloc (.cells #[.slice none 0 0] 24))) hx1
    have c4 : w1.cell? ⟨w.heap.size + 2, 0, none⟩ = some (.slice none 0 0) := hx1.cell (by simp (maxDischargeDepth := 7) [go_sem])
    have f4 : w1.frozen? ⟨w.heap.size + 2, 0, none⟩ = false := (hx1.out.frozen (p := ⟨w.heap.size + 2, 0, none⟩) (by simp)).trans (by simp (maxDischargeDepth := 7) [go_sem])
    replace hown := own_base hown (b := w.heap.size + 3) (by simp)
    obtain ⟨B4, hB4⟩ : ∃ B4, w.heap.size + 1 + 1 = B4 := ⟨_, rfl⟩
    have tl : w.heap.size < w1.heap.size := lt_of_cell t0
    rw [show w.heap.size + 2 = B4 from hB4] at c4 f4
    rw [hB4]
    have HB4 := Lib.hid hB4
    have b04 : w.heap.size ≠ B4 := by omega
    have b14 : w.heap.size + 1 ≠ B4 := by omega
    clear hB4
    obtain ⟨VA, vc, rfl⟩ := own_form' hown
    have HOW := Lib.hid hown
    have s1 : B4 < w1.heap.size := lt_of_cell c4
    clear hown
    go_wp2_with fail
    obtain ⟨wb, hwb⟩ : ∃ wb, w1.alloc (.cells #[.slice VA n vc] 24) = wb := ⟨_, rfl⟩
    have kO : Ext w1 wb := by rw [← hwb]; exact (by repeat (first | assumption | exact Ext.refl _ | refine Ext.alloc ?_ _ | refine Ext.drew ?_ | refine Ext.drewN ?_ _ | refine Ext.setCell ?_ (by first | (simp; done) | omega | (simp; omega)) _ | refine Ext.trans (by assumption) ?_))
    obtain ⟨B6, hB6⟩ : ∃ B6, w1.heap.size = B6 := ⟨_, rfl⟩
    have c6 : wb.cell? ⟨B6, 0, none⟩ = some (.slice VA n vc) := by rw [← hwb, ← hB6]; simp
    have f6 : wb.frozen? ⟨B6, 0, none⟩ = false := by rw [← hwb, ← hB6]; simp
    rw [hwb, hB6]
    rw [hB6] at s1
    have HB6 := Lib.hid hB6
    clear hwb hB6
    replace f4 := (kO.out.frozen (p := ⟨B4, 0, none⟩) (lt_of_cell c4)).trans f4
    replace c4 := kO.cell c4
    replace t0 := kO.cell t0
    replace rB := rangeAt_ext rB kO
    have b46 : B4 ≠ B6 := by omega
    have b06 : w.heap.size ≠ B6 := by have := HB4.out; omega
    have b16 : w.heap.size + 1 ≠ B6 := by have := HB4.out; omega
    refine (HM.out false hm _ (k1.trans kO)).mono ?_
    rintro e w2 ⟨rfl, hx2⟩
    replace f4 := (hx2.out.frozen (p := ⟨B4, 0, none⟩) (lt_of_cell c4)).trans f4
    replace f6 := (hx2.out.frozen (p := ⟨B6, 0, none⟩) (lt_of_cell c6)).trans f6
    replace c4 := hx2.cell c4
    replace c6 := hx2.cell c6
    replace t0 := hx2.cell t0
    replace rB := rangeAt_ext rB hx2
    replace kO := kO.trans hx2
    go_wp2
    refine bodyPost_ret (v := .tuple #[.agg #[.slice VA n vc], .int .i64 1]) (by simp (maxDischargeDepth := 7) [results, Try.results18, go_sem, c4, f4]) rfl ⟨⟨_, _, _, by rw [HE.out], ?_⟩, ?_⟩
    · rw [HVV.out]
      exact nl_of_own (own_setCell (a := ⟨B4, 0, none⟩) (own_ext HOW.out kO) (by have := HB4.out; show B4 < w.heap.size + 3; omega) _) HBY.out HLE.out HOK.out
    · exact (k1.trans kO).setCell (p := ⟨B4, 0, none⟩) (by have := HB4.out; show w.heap.size ≤ B4; omega) _
  | true =>
    have HMA := Lib.hid hm
    have hnd := Tree.nodup hm
    have h12 := Tree.len_le hm
    rw [hlen] at h12
    rw [decide_eq_true hnd] at HI
    have HND := Lib.hid hnd
    by_cases hr : b.root ∈ Tree.roots NS
    · have HE : Hid (Tree.putE NS b = 4) := by show _ = _; unfold Tree.putE; rw [if_pos hm, if_pos hr]
      have HVV : Hid (Tree.putV NS b = NS) := by show _ = _; unfold Tree.putV; rw [HE.out, if_neg (by decide)]
      have HR := Lib.hid hr
      clear hr hnd
      go_enter Try.func18, Try.ntmps18
      go_wp2_with fail
      refine (HO.out _ ((by repeat (first | assumption | exact Ext.refl _ | refine Ext.alloc ?_ _ | refine Ext.drew ?_ | refine Ext.drewN ?_ _ | refine Ext.setCell ?_ (by first | (simp; done) | omega | (simp; omega)) _ | refine Ext.trans (by assumption) ?_)))).mono ?_
      rintro e w1 ⟨⟨v, rfl, hown⟩, hx1⟩
      have k1 : Ext w w1 := Ext.trans ((by repeat (first | assumption | exact Ext.refl _ | refine Ext.alloc ?_ _ | refine Ext.drew ?_ | refine Ext.drewN ?_ _ | refine Ext.setCell ?_ (by first | (simp; done) | omega | (simp; omega)) _ | refine Ext.trans (by assumption) ?_))) hx1
      have t0 := hx1.cell (p := ⟨w.heap.size, 0, none⟩) (v := .slice A n c) (by simp (maxDischargeDepth := 7) [go_sem])
      have rB : w1.rangeAt (w.heap.size + 1) 0 b.cells := rangeAt_ext (rangeAt_ext (range_at (w := w.alloc (.cells #[.slice A n c] 24)) (B := w.heap.size + 1) b.cells 44 (by simp)) ((Ext.refl _).alloc (.cells #[.slice none 0 0] 24))) hx1
      have c4 : w1.cell? ⟨w.heap.size + 2, 0, none⟩ = some (.slice none 0 0) := hx1.cell (by simp (maxDischargeDepth := 7) [go_sem])
      have f4 : w1.frozen? ⟨w.heap.size + 2, 0, none⟩ = false := (hx1.out.frozen (p := ⟨w.heap.size + 2, 0, none⟩) (by simp)).trans (by simp (maxDischargeDepth := 7) [go_sem])
      replace hown := own_base hown (b := w.heap.size + 3) (by simp)
      obtain ⟨B4, hB4⟩ : ∃ B4, w.heap.size + 1 + 1 = B4 := ⟨_, rfl⟩
      have tl : w.heap.size < w1.heap.size := lt_of_cell t0
      rw [show w.heap.size + 2 = B4 from hB4] at c4 f4
      rw [hB4]
      have HB4 := Lib.hid hB4
      have b04 : w.heap.size ≠ B4 := by omega
      have b14 : w.heap.size + 1 ≠ B4 := by omega
      clear hB4
      obtain ⟨VA, vc, rfl⟩ := own_form' hown
      have HOW := Lib.hid hown
      have s1 : B4 < w1.heap.size := lt_of_cell c4
      clear hown
      go_wp2_with fail
      obtain ⟨wb, hwb⟩ : ∃ wb, w1.alloc (.cells #[.slice VA n vc] 24) = wb := ⟨_, rfl⟩
      have kO : Ext w1 wb := by rw [← hwb]; exact (by repeat (first | assumption | exact Ext.refl _ | refine Ext.alloc ?_ _ | refine Ext.drew ?_ | refine Ext.drewN ?_ _ | refine Ext.setCell ?_ (by first | (simp; done) | omega | (simp; omega)) _ | refine Ext.trans (by assumption) ?_))
      obtain ⟨B6, hB6⟩ : ∃ B6, w1.heap.size = B6 := ⟨_, rfl⟩
      have c6 : wb.cell? ⟨B6, 0, none⟩ = some (.slice VA n vc) := by rw [← hwb, ← hB6]; simp
      have f6 : wb.frozen? ⟨B6, 0, none⟩ = false := by rw [← hwb, ← hB6]; simp
      rw [hwb, hB6]
      rw [hB6] at s1
      have HB6 := Lib.hid hB6
      clear hwb hB6
      replace f4 := (kO.out.frozen (p := ⟨B4, 0, none⟩) (lt_of_cell c4)).trans f4
      replace c4 := kO.cell c4
      replace t0 := kO.cell t0
      replace rB := rangeAt_ext rB kO
      have b46 : B4 ≠ B6 := by omega
      have b06 : w.heap.size ≠ B6 := by have := HB4.out; omega
      have b16 : w.heap.size + 1 ≠ B6 := by have := HB4.out; omega
      refine (HM.out true hm _ (k1.trans kO)).mono ?_
      rintro e w2 ⟨rfl, hx2⟩
      replace f4 := (hx2.out.frozen (p := ⟨B4, 0, none⟩) (lt_of_cell c4)).trans f4
      replace f6 := (hx2.out.frozen (p := ⟨B6, 0, none⟩) (lt_of_cell c6)).trans f6
      replace c4 := hx2.cell c4
      replace c6 := hx2.cell c6
      replace t0 := hx2.cell t0
      replace rB := rangeAt_ext rB hx2
      replace kO := kO.trans hx2
      clear HO HM hm
      go_wp2_with fail
      refine (HI.out _ (k1.trans kO)).mono ?_
      rintro e w3 ⟨⟨Bm, D, rfl, M, hBm⟩, hx3⟩
      replace f4 := (hx3.out.frozen (p := ⟨B4, 0, none⟩) (lt_of_cell c4)).trans f4
      replace f6 := (hx3.out.frozen (p := ⟨B6, 0, none⟩) (lt_of_cell c6)).trans f6
      replace c4 := hx3.cell c4
      replace c6 := hx3.cell c6
      replace t0 := hx3.cell t0
      replace rB := rangeAt_ext rB hx3
      replace kO := kO.trans hx3
      have hown := M.own
      have rR : w3.rangeAt (w.heap.size + 1) 0 (rootC b.root) := rangeAt_part (xs := []) (ys := rootC b.root) (zs := rootC b.up ++ [Value.int .u64 b.slot, Value.int .u64 b.just]) (k := 0) (by rw [List.nil_append, ← List.append_assoc]; exact rB) rfl
      have rU : w3.rangeAt (w.heap.size + 1) 32 (rootC b.up) := by have := rangeAt_part (xs := rootC b.root) (ys := rootC b.up) (zs := [Value.int .u64 b.slot, Value.int .u64 b.just]) (k := 32) rB (rootC_len HBO.out.1); rwa [Nat.zero_add] at this
      have d2 := rangeAt_head rB (j := 64) (v := .int .u64 b.slot) (by unfold Block.cells; simp [rootC_len HBO.out.1, rootC_len HBO.out.2.1])
      have d3 := rangeAt_head rB (j := 65) (v := .int .u64 b.just) (by unfold Block.cells; simp [rootC_len HBO.out.1, rootC_len HBO.out.2.1])
      simp only [Nat.zero_add] at d2 d3
      have hhr := M.has b.root HBO.out.1
      rw [decide_eq_true HR.out] at hhr
      go_wp2_with (first | (refine wpList_load_mid rfl 32 _ rfl _ _ rfl (rootC b.root) _ rR Try.underlying32 rfl hi32 ?_) | (refine wpList_load_mid rfl 32 _ rfl _ _ rfl (rootC b.up) _ rU Try.underlying32 rfl hj32 ?_) | (at_lookup; refine wpList_lookup_own_ok_int _ rfl _ _ 57 rfl 32 3 .i64 keyLaw Try.underlying57 Try.underlying3 (zeroI _) Bm _ D rfl hown _ (keyL b.root) rfl (key_is HBO.out.1) ?_; intro c1 hc1 hwc1; rw [hhr]))
      refine bodyPost_ret (v := .tuple #[.agg #[.slice VA n vc], .int .i64 4]) (by simp (maxDischargeDepth := 7) [results, Try.results18, go_sem, c4, f4]) rfl ⟨⟨_, _, _, by rw [HE.out], ?_⟩, ?_⟩
      · rw [HVV.out]
        exact nl_of_own (own_setCell (a := ⟨B4, 0, none⟩) (own_ext HOW.out kO) (by have := HB4.out; show B4 < w.heap.size + 3; omega) _) HBY.out HLE.out HOK.out
      · exact (k1.trans kO).setCell (p := ⟨B4, 0, none⟩) (by have := HB4.out; show w.heap.size ≤ B4; omega) _
    · by_cases hu : b.up ∈ Tree.roots NS
      · obtain ⟨p, hp⟩ : ∃ p, (Tree.roots NS).idxOf b.up = p := ⟨_, rfl⟩
        have hpl := List.idxOf_lt_length_of_mem hu
        rw [roots_len, hlen, hp] at hpl
        have HR := Lib.hid hr
        have HU := Lib.hid hu
        have HP := Lib.hid hp
        obtain ⟨sp, hsp⟩ : ∃ sp, (Tree.nd NS p).slot = sp := ⟨_, rfl⟩
        have HSP := Lib.hid hsp
        have HEQ : Hid (Tree.putE NS b = if b.slot ≤ sp ∨ 1099511627776 < b.slot then 6 else if n = 12 then 3 else 0) := by show _ = _; unfold Tree.putE; rw [if_pos hm, if_neg hr, if_pos hu, hp, hsp, hlen]
        have HRO := Lib.hid (fun (s : List Int) (hs : s ∈ Tree.roots NS) => (by
          obtain ⟨x, hx, rfl⟩ := List.mem_map.1 hs
          exact (HOK.out x hx).1 : RootOk s))
        have gpn : (p : Int) < n := by omega
        have hoku := HBO.out.2.2.1
        obtain ⟨bs, hbs⟩ : ∃ bs, b.slot = bs := ⟨_, rfl⟩
        rw [hbs] at HEQ hoku
        have HBS := Lib.hid hbs
        clear hr hnd hu hp hsp hlen hbs
        by_cases h1 : bs ≤ sp
        · have HE : Hid (Tree.putE NS b = 6) := by show _ = _; rw [HEQ.out, if_pos (.inl h1)]
          have HVV : Hid (Tree.putV NS b = NS) := by show _ = _; unfold Tree.putV; rw [HE.out, if_neg (by decide)]
          have gs : (bs : Int) ≤ sp := by omega
          clear h1
          go_enter Try.func18, Try.ntmps18
          go_wp2_with fail
          refine (HO.out _ ((by repeat (first | assumption | exact Ext.refl _ | refine Ext.alloc ?_ _ | refine Ext.drew ?_ | refine Ext.drewN ?_ _ | refine Ext.setCell ?_ (by first | (simp; done) | omega | (simp; omega)) _ | refine Ext.trans (by assumption) ?_)))).mono ?_
          rintro e w1 ⟨⟨v, rfl, hown⟩, hx1⟩
          have k1 : Ext w w1 := Ext.trans ((by repeat (first | assumption | exact Ext.refl _ | refine Ext.alloc ?_ _ | refine Ext.drew ?_ | refine Ext.drewN ?_ _ | refine Ext.setCell ?_ (by first | (simp; done) | omega | (simp; omega)) _ | refine Ext.trans (by assumption) ?_))) hx1
          have t0 := hx1.cell (p := ⟨w.heap.size, 0, none⟩) (v := .slice A n c) (by simp (maxDischargeDepth := 7) [go_sem])
          have rB : w1.rangeAt (w.heap.size + 1) 0 b.cells := rangeAt_ext (rangeAt_ext (range_at (w := w.alloc (.cells #[.slice A n c] 24)) (B := w.heap.size + 1) b.cells 44 (by simp)) ((Ext.refl _).alloc (.cells #[.slice none 0 0] 24))) hx1
          have c4 : w1.cell? ⟨w.heap.size + 2, 0, none⟩ = some (.slice none 0 0) := hx1.cell (by simp (maxDischargeDepth := 7) [go_sem])
          have f4 : w1.frozen? ⟨w.heap.size + 2, 0, none⟩ = false := (hx1.out.frozen (p := ⟨w.heap.size + 2, 0, none⟩) (by simp)).trans (by simp (maxDischargeDepth := 7) [go_sem])
          replace hown := own_base hown (b := w.heap.size + 3) (by simp)
          obtain ⟨B4, hB4⟩ : ∃ B4, w.heap.size + 1 + 1 = B4 := ⟨_, rfl⟩
          have tl : w.heap.size < w1.heap.size := lt_of_cell t0
          rw [show w.heap.size + 2 = B4 from hB4] at c4 f4
          rw [hB4]
          have HB4 := Lib.hid hB4
          have b04 : w.heap.size ≠ B4 := by omega
          have b14 : w.heap.size + 1 ≠ B4 := by omega
          clear hB4
          obtain ⟨VA, vc, rfl⟩ := own_form' hown
          have HOW := Lib.hid hown
          have s1 : B4 < w1.heap.size := lt_of_cell c4
          clear hown
          go_wp2_with fail
          obtain ⟨wb, hwb⟩ : ∃ wb, w1.alloc (.cells #[.slice VA n vc] 24) = wb := ⟨_, rfl⟩
          have kO : Ext w1 wb := by rw [← hwb]; exact (by repeat (first | assumption | exact Ext.refl _ | refine Ext.alloc ?_ _ | refine Ext.drew ?_ | refine Ext.drewN ?_ _ | refine Ext.setCell ?_ (by first | (simp; done) | omega | (simp; omega)) _ | refine Ext.trans (by assumption) ?_))
          obtain ⟨B6, hB6⟩ : ∃ B6, w1.heap.size = B6 := ⟨_, rfl⟩
          have c6 : wb.cell? ⟨B6, 0, none⟩ = some (.slice VA n vc) := by rw [← hwb, ← hB6]; simp
          have f6 : wb.frozen? ⟨B6, 0, none⟩ = false := by rw [← hwb, ← hB6]; simp
          rw [hwb, hB6]
          rw [hB6] at s1
          have HB6 := Lib.hid hB6
          clear hwb hB6
          replace f4 := (kO.out.frozen (p := ⟨B4, 0, none⟩) (lt_of_cell c4)).trans f4
          replace c4 := kO.cell c4
          replace t0 := kO.cell t0
          replace rB := rangeAt_ext rB kO
          have b46 : B4 ≠ B6 := by omega
          have b06 : w.heap.size ≠ B6 := by have := HB4.out; omega
          have b16 : w.heap.size + 1 ≠ B6 := by have := HB4.out; omega
          refine (HM.out true hm _ (k1.trans kO)).mono ?_
          rintro e w2 ⟨rfl, hx2⟩
          replace f4 := (hx2.out.frozen (p := ⟨B4, 0, none⟩) (lt_of_cell c4)).trans f4
          replace f6 := (hx2.out.frozen (p := ⟨B6, 0, none⟩) (lt_of_cell c6)).trans f6
          replace c4 := hx2.cell c4
          replace c6 := hx2.cell c6
          replace t0 := hx2.cell t0
          replace rB := rangeAt_ext rB hx2
          replace kO := kO.trans hx2
          clear HO HM hm
          go_wp2_with fail
          refine (HI.out _ (k1.trans kO)).mono ?_
          rintro e w3 ⟨⟨Bm, D, rfl, M, hBm⟩, hx3⟩
          replace f4 := (hx3.out.frozen (p := ⟨B4, 0, none⟩) (lt_of_cell c4)).trans f4
          replace f6 := (hx3.out.frozen (p := ⟨B6, 0, none⟩) (lt_of_cell c6)).trans f6
          replace c4 := hx3.cell c4
          replace c6 := hx3.cell c6
          replace t0 := hx3.cell t0
          replace rB := rangeAt_ext rB hx3
          replace kO := kO.trans hx3
          have hown := M.own
          have rR : w3.rangeAt (w.heap.size + 1) 0 (rootC b.root) := rangeAt_part (xs := []) (ys := rootC b.root) (zs := rootC b.up ++ [Value.int .u64 b.slot, Value.int .u64 b.just]) (k := 0) (by rw [List.nil_append, ← List.append_assoc]; exact rB) rfl
          have rU : w3.rangeAt (w.heap.size + 1) 32 (rootC b.up) := by have := rangeAt_part (xs := rootC b.root) (ys := rootC b.up) (zs := [Value.int .u64 b.slot, Value.int .u64 b.just]) (k := 32) rB (rootC_len HBO.out.1); rwa [Nat.zero_add] at this
          have d2 := rangeAt_head rB (j := 64) (v := .int .u64 b.slot) (by unfold Block.cells; simp [rootC_len HBO.out.1, rootC_len HBO.out.2.1])
          have d3 := rangeAt_head rB (j := 65) (v := .int .u64 b.just) (by unfold Block.cells; simp [rootC_len HBO.out.1, rootC_len HBO.out.2.1])
          simp only [Nat.zero_add] at d2 d3
          have hhr := M.has b.root HBO.out.1
          rw [decide_eq_false HR.out] at hhr
          have hhu := M.has b.up HBO.out.2.1
          rw [decide_eq_true HU.out] at hhu
          have hat := M.at_in HRO.out HND.out HU.out
          rw [HP.out] at hat
          have HAT := Lib.hid (fun (c : Int) (hc : D.atKey (keyL b.up) (.lit (.int .i64 0)) = .lit (.int .i64 c)) => (by have := hat.symm.trans hc; simpa using this.symm : c = (p : Int)))
          obtain ⟨bb, off, rfl, hrx, hokx⟩ := (HV.out _ (k1.trans kO)).at' hpl
          have dp := rangeAt_head hrx (Node.at33 hokx)
          change World.cell? _ _ = some (.int .u64 (Tree.nd NS p).slot) at dp
          rw [HSP.out] at dp
          rw [HBS.out] at d2
          clear hrx hokx hat
          go_wp2_with (first | (refine wpList_load_mid rfl 32 _ rfl _ _ rfl (rootC b.root) _ rR Try.underlying32 rfl hi32 ?_) | (refine wpList_load_mid rfl 32 _ rfl _ _ rfl (rootC b.up) _ rU Try.underlying32 rfl hj32 ?_) | (at_lookup; refine wpList_lookup_own_ok_int _ rfl _ _ 57 rfl 32 3 .i64 keyLaw Try.underlying57 Try.underlying3 (zeroI _) Bm _ D rfl hown _ (keyL b.root) rfl (key_is HBO.out.1) ?_; intro c1 hc1 hwc1; rw [hhr]; clear hc1 hwc1) | (at_lookup; refine wpList_lookup_own_ok_int _ rfl _ _ 57 rfl 32 3 .i64 keyLaw Try.underlying57 Try.underlying3 (zeroI _) Bm _ D rfl hown _ (keyL b.up) rfl (key_is HBO.out.2.1) ?_; intro c2 hc2 hwc2; rw [hhu]; obtain rfl := HAT.out c2 hc2; clear hc2 hwc2))
          refine wp_region_quiet_lit (by kernel_rfl) (by kernel_rfl) ?_
          repeat (first | go_big_quiet_skip | (go_big_quiet_want; first | ((fail); (try simp only [Act.put, List.setIfInBounds_toArray, List.set_cons_zero, List.set_cons_succ]); go_big_quiet_on) | (go_big_quiet_op; first | go_big_quiet_on | go_big_quiet_call (fail))))
          refine wpQuiet_nil ?_
          intro _ hw'
          obtain ⟨nq', hw''⟩ := hw'
          subst hw''
          have kd : Ext w3 (w3.drewN nq') := (Ext.refl _).drewN _
          replace f4 := (kd.out.frozen (p := ⟨B4, 0, none⟩) (lt_of_cell c4)).trans f4
          replace f6 := (kd.out.frozen (p := ⟨B6, 0, none⟩) (lt_of_cell c6)).trans f6
          replace c4 := kd.cell c4
          replace c6 := kd.cell c6
          replace t0 := kd.cell t0
          replace rB := rangeAt_ext rB kd
          replace kO := kO.trans kd
          replace d2 := kd.cell d2
          replace d3 := kd.cell d3
          replace rR := rangeAt_ext rR kd
          clear rU hown hhr hhu dp M kd HAT
          generalize w3.drewN nq' = w4 at *
          go_wp2
          refine bodyPost_ret (v := .tuple #[.agg #[.slice VA n vc], .int .i64 6]) (by simp (maxDischargeDepth := 7) [results, Try.results18, go_sem, c4, f4]) rfl ⟨⟨_, _, _, by rw [HE.out], ?_⟩, ?_⟩
          · rw [HVV.out]
            exact nl_of_own (own_setCell (a := ⟨B4, 0, none⟩) (own_ext HOW.out kO) (by have := HB4.out; show B4 < w.heap.size + 3; omega) _) HBY.out HLE.out HOK.out
          · exact (k1.trans kO).setCell (p := ⟨B4, 0, none⟩) (by have := HB4.out; show w.heap.size ≤ B4; omega) _
        · have gs : decide ((bs : Int) ≤ sp) = false := decide_eq_false (by omega)
          have gs2 : decide (bs ≤ sp) = false := decide_eq_false h1
          by_cases h2 : 1099511627776 < bs
          · have HE : Hid (Tree.putE NS b = 6) := by show _ = _; rw [HEQ.out, if_pos (.inr h2)]
            have HVV : Hid (Tree.putV NS b = NS) := by show _ = _; unfold Tree.putV; rw [HE.out, if_neg (by decide)]
            have gm : (1099511627776 : Int) < bs := by omega
            clear h1 h2
            go_enter Try.func18, Try.ntmps18
            go_wp2_with fail
            refine (HO.out _ ((by repeat (first | assumption | exact Ext.refl _ | refine Ext.alloc ?_ _ | refine Ext.drew ?_ | refine Ext.drewN ?_ _ | refine Ext.setCell ?_ (by first | (simp; done) | omega | (simp; omega)) _ | refine Ext.trans (by assumption) ?_)))).mono ?_
            rintro e w1 ⟨⟨v, rfl, hown⟩, hx1⟩
            have k1 : Ext w w1 := Ext.trans ((by repeat (first | assumption | exact Ext.refl _ | refine Ext.alloc ?_ _ | refine Ext.drew ?_ | refine Ext.drewN ?_ _ | refine Ext.setCell ?_ (by first | (simp; done) | omega | (simp; omega)) _ | refine Ext.trans (by assumption) ?_))) hx1
            have t0 := hx1.cell (p := ⟨w.heap.size, 0, none⟩) (v := .slice A n c) (by simp (maxDischargeDepth := 7) [go_sem])
            have rB : w1.rangeAt (w.heap.size + 1) 0 b.cells := rangeAt_ext (rangeAt_ext (range_at (w := w.alloc (.cells #[.slice A n c] 24)) (B := w.heap.size + 1) b.cells 44 (by simp)) ((Ext.refl _).alloc (.cells #[.slice none 0 0] 24))) hx1
            have c4 : w1.cell? ⟨w.heap.size + 2, 0, none⟩ = some (.slice none 0 0) := hx1.cell (by simp (maxDischargeDepth := 7) [go_sem])
            have f4 : w1.frozen? ⟨w.heap.size + 2, 0, none⟩ = false := (hx1.out.frozen (p := ⟨w.heap.size + 2, 0, none⟩) (by simp)).trans (by simp (maxDischargeDepth := 7) [go_sem])
            replace hown := own_base hown (b := w.heap.size + 3) (by simp)
            obtain ⟨B4, hB4⟩ : ∃ B4, w.heap.size + 1 + 1 = B4 := ⟨_, rfl⟩
            have tl : w.heap.size < w1.heap.size := lt_of_cell t0
            rw [show w.heap.size + 2 = B4 from hB4] at c4 f4
            rw [hB4]
            have HB4 := Lib.hid hB4
            have b04 : w.heap.size ≠ B4 := by omega
            have b14 : w.heap.size + 1 ≠ B4 := by omega
            clear hB4
            obtain ⟨VA, vc, rfl⟩ := own_form' hown
            have HOW := Lib.hid hown
            have s1 : B4 < w1.heap.size := lt_of_cell c4
            clear hown
            go_wp2_with fail
            obtain ⟨wb, hwb⟩ : ∃ wb, w1.alloc (.cells #[.slice VA n vc] 24) = wb := ⟨_, rfl⟩
            have kO : Ext w1 wb := by rw [← hwb]; exact (by repeat (first | assumption | exact Ext.refl _ | refine Ext.alloc ?_ _ | refine Ext.drew ?_ | refine Ext.drewN ?_ _ | refine Ext.setCell ?_ (by first | (simp; done) | omega | (simp; omega)) _ | refine Ext.trans (by assumption) ?_))
            obtain ⟨B6, hB6⟩ : ∃ B6, w1.heap.size = B6 := ⟨_, rfl⟩
            have c6 : wb.cell? ⟨B6, 0, none⟩ = some (.slice VA n vc) := by rw [← hwb, ← hB6]; simp
            have f6 : wb.frozen? ⟨B6, 0, none⟩ = false := by rw [← hwb, ← hB6]; simp
            rw [hwb, hB6]
            rw [hB6] at s1
            have HB6 := Lib.hid hB6
            clear hwb hB6
            replace f4 := (kO.out.frozen (p := ⟨B4, 0, none⟩) (lt_of_cell c4)).trans f4
            replace c4 := kO.cell c4
            replace t0 := kO.cell t0
            replace rB := rangeAt_ext rB kO
            have b46 : B4 ≠ B6 := by omega
            have b06 : w.heap.size ≠ B6 := by have := HB4.out; omega
            have b16 : w.heap.size + 1 ≠ B6 := by have := HB4.out; omega
            refine (HM.out true hm _ (k1.trans kO)).mono ?_
            rintro e w2 ⟨rfl, hx2⟩
            replace f4 := (hx2.out.frozen (p := ⟨B4, 0, none⟩) (lt_of_cell c4)).trans f4
            replace f6 := (hx2.out.frozen (p := ⟨B6, 0, none⟩) (lt_of_cell c6)).trans f6
            replace c4 := hx2.cell c4
            replace c6 := hx2.cell c6
            replace t0 := hx2.cell t0
            replace rB := rangeAt_ext rB hx2
            replace kO := kO.trans hx2
            clear HO HM hm
            go_wp2_with fail
            refine (HI.out _ (k1.trans kO)).mono ?_
            rintro e w3 ⟨⟨Bm, D, rfl, M, hBm⟩, hx3⟩
            replace f4 := (hx3.out.frozen (p := ⟨B4, 0, none⟩) (lt_of_cell c4)).trans f4
            replace f6 := (hx3.out.frozen (p := ⟨B6, 0, none⟩) (lt_of_cell c6)).trans f6
            replace c4 := hx3.cell c4
            replace c6 := hx3.cell c6
            replace t0 := hx3.cell t0
            replace rB := rangeAt_ext rB hx3
            replace kO := kO.trans hx3
            have hown := M.own
            have rR : w3.rangeAt (w.heap.size + 1) 0 (rootC b.root) := rangeAt_part (xs := []) (ys := rootC b.root) (zs := rootC b.up ++ [Value.int .u64 b.slot, Value.int .u64 b.just]) (k := 0) (by rw [List.nil_append, ← List.append_assoc]; exact rB) rfl
            have rU : w3.rangeAt (w.heap.size + 1) 32 (rootC b.up) := by have := rangeAt_part (xs := rootC b.root) (ys := rootC b.up) (zs := [Value.int .u64 b.slot, Value.int .u64 b.just]) (k := 32) rB (rootC_len HBO.out.1); rwa [Nat.zero_add] at this
            have d2 := rangeAt_head rB (j := 64) (v := .int .u64 b.slot) (by unfold Block.cells; simp [rootC_len HBO.out.1, rootC_len HBO.out.2.1])
            have d3 := rangeAt_head rB (j := 65) (v := .int .u64 b.just) (by unfold Block.cells; simp [rootC_len HBO.out.1, rootC_len HBO.out.2.1])
            simp only [Nat.zero_add] at d2 d3
            have hhr := M.has b.root HBO.out.1
            rw [decide_eq_false HR.out] at hhr
            have hhu := M.has b.up HBO.out.2.1
            rw [decide_eq_true HU.out] at hhu
            have hat := M.at_in HRO.out HND.out HU.out
            rw [HP.out] at hat
            have HAT := Lib.hid (fun (c : Int) (hc : D.atKey (keyL b.up) (.lit (.int .i64 0)) = .lit (.int .i64 c)) => (by have := hat.symm.trans hc; simpa using this.symm : c = (p : Int)))
            obtain ⟨bb, off, rfl, hrx, hokx⟩ := (HV.out _ (k1.trans kO)).at' hpl
            have dp := rangeAt_head hrx (Node.at33 hokx)
            change World.cell? _ _ = some (.int .u64 (Tree.nd NS p).slot) at dp
            rw [HSP.out] at dp
            rw [HBS.out] at d2
            clear hrx hokx hat
            go_wp2_with (first | (refine wpList_load_mid rfl 32 _ rfl _ _ rfl (rootC b.root) _ rR Try.underlying32 rfl hi32 ?_) | (refine wpList_load_mid rfl 32 _ rfl _ _ rfl (rootC b.up) _ rU Try.underlying32 rfl hj32 ?_) | (at_lookup; refine wpList_lookup_own_ok_int _ rfl _ _ 57 rfl 32 3 .i64 keyLaw Try.underlying57 Try.underlying3 (zeroI _) Bm _ D rfl hown _ (keyL b.root) rfl (key_is HBO.out.1) ?_; intro c1 hc1 hwc1; rw [hhr]; clear hc1 hwc1) | (at_lookup; refine wpList_lookup_own_ok_int _ rfl _ _ 57 rfl 32 3 .i64 keyLaw Try.underlying57 Try.underlying3 (zeroI _) Bm _ D rfl hown _ (keyL b.up) rfl (key_is HBO.out.2.1) ?_; intro c2 hc2 hwc2; rw [hhu]; obtain rfl := HAT.out c2 hc2; clear hc2 hwc2))
            refine wp_region_quiet_lit (by kernel_rfl) (by kernel_rfl) ?_
            repeat (first | go_big_quiet_skip | (go_big_quiet_want; first | ((fail); (try simp only [Act.put, List.setIfInBounds_toArray, List.set_cons_zero, List.set_cons_succ]); go_big_quiet_on) | (go_big_quiet_op; first | go_big_quiet_on | go_big_quiet_call (fail))))
            refine wpQuiet_nil ?_
            intro _ hw'
            obtain ⟨nq', hw''⟩ := hw'
            subst hw''
            have kd : Ext w3 (w3.drewN nq') := (Ext.refl _).drewN _
            replace f4 := (kd.out.frozen (p := ⟨B4, 0, none⟩) (lt_of_cell c4)).trans f4
            replace f6 := (kd.out.frozen (p := ⟨B6, 0, none⟩) (lt_of_cell c6)).trans f6
            replace c4 := kd.cell c4
            replace c6 := kd.cell c6
            replace t0 := kd.cell t0
            replace rB := rangeAt_ext rB kd
            replace kO := kO.trans kd
            replace d2 := kd.cell d2
            replace d3 := kd.cell d3
            replace rR := rangeAt_ext rR kd
            clear rU hown hhr hhu dp M kd HAT
            generalize w3.drewN nq' = w4 at *
            go_wp2
            refine bodyPost_ret (v := .tuple #[.agg #[.slice VA n vc], .int .i64 6]) (by simp (maxDischargeDepth := 7) [results, Try.results18, go_sem, c4, f4]) rfl ⟨⟨_, _, _, by rw [HE.out], ?_⟩, ?_⟩
            · rw [HVV.out]
              exact nl_of_own (own_setCell (a := ⟨B4, 0, none⟩) (own_ext HOW.out kO) (by have := HB4.out; show B4 < w.heap.size + 3; omega) _) HBY.out HLE.out HOK.out
            · exact (k1.trans kO).setCell (p := ⟨B4, 0, none⟩) (by have := HB4.out; show w.heap.size ≤ B4; omega) _
          · have gm : ¬ (1099511627776 : Int) < bs := by omega
            by_cases h3 : n = 12
            · have HE : Hid (Tree.putE NS b = 3) := by show _ = _; rw [HEQ.out, if_neg (by omega), if_pos h3]
              have HVV : Hid (Tree.putV NS b = NS) := by show _ = _; unfold Tree.putV; rw [HE.out, if_neg (by decide)]
              have HG : Hid (((n : Int) == 12) = true) := by show _ = _; rw [h3]; rfl
              clear h1 h2 h3
              go_enter Try.func18, Try.ntmps18
              go_wp2_with fail
              refine (HO.out _ ((by repeat (first | assumption | exact Ext.refl _ | refine Ext.alloc ?_ _ | refine Ext.drew ?_ | refine Ext.drewN ?_ _ | refine Ext.setCell ?_ (by first | (simp; done) | omega | (simp; omega)) _ | refine Ext.trans (by assumption) ?_)))).mono ?_
              rintro e w1 ⟨⟨v, rfl, hown⟩, hx1⟩
              have k1 : Ext w w1 := Ext.trans ((by repeat (first | assumption | exact Ext.refl _ | refine Ext.alloc ?_ _ | refine Ext.drew ?_ | refine Ext.drewN ?_ _ | refine Ext.setCell ?_ (by first | (simp; done) | omega | (simp; omega)) _ | refine Ext.trans (by assumption) ?_))) hx1
              have t0 := hx1.cell (p := ⟨w.heap.size, 0, none⟩) (v := .slice A n c) (by simp (maxDischargeDepth := 7) [go_sem])
              have rB : w1.rangeAt (w.heap.size + 1) 0 b.cells := rangeAt_ext (rangeAt_ext (range_at (w := w.alloc (.cells #[.slice A n c] 24)) (B := w.heap.size + 1) b.cells 44 (by simp)) ((Ext.refl _).alloc (.cells #[.slice none 0 0] 24))) hx1
              have c4 : w1.cell? ⟨w.heap.size + 2, 0, none⟩ = some (.slice none 0 0) := hx1.cell (by simp (maxDischargeDepth := 7) [go_sem])
              have f4 : w1.frozen? ⟨w.heap.size + 2, 0, none⟩ = false := (hx1.out.frozen (p := ⟨w.heap.size + 2, 0, none⟩) (by simp)).trans (by simp (maxDischargeDepth := 7) [go_sem])
              replace hown := own_base hown (b := w.heap.size + 3) (by simp)
              obtain ⟨B4, hB4⟩ : ∃ B4, w.heap.size + 1 + 1 = B4 := ⟨_, rfl⟩
              have tl : w.heap.size < w1.heap.size := lt_of_cell t0
              rw [show w.heap.size + 2 = B4 from hB4] at c4 f4
              rw [hB4]
              have HB4 := Lib.hid hB4
              have b04 : w.heap.size ≠ B4 := by omega
              have b14 : w.heap.size + 1 ≠ B4 := by omega
              clear hB4
              obtain ⟨VA, vc, rfl⟩ := own_form' hown
              have HOW := Lib.hid hown
              have s1 : B4 < w1.heap.size := lt_of_cell c4
              clear hown
              go_wp2_with fail
              obtain ⟨wb, hwb⟩ : ∃ wb, w1.alloc (.cells #[.slice VA n vc] 24) = wb := ⟨_, rfl⟩
              have kO : Ext w1 wb := by rw [← hwb]; exact (by repeat (first | assumption | exact Ext.refl _ | refine Ext.alloc ?_ _ | refine Ext.drew ?_ | refine Ext.drewN ?_ _ | refine Ext.setCell ?_ (by first | (simp; done) | omega | (simp; omega)) _ | refine Ext.trans (by assumption) ?_))
              obtain ⟨B6, hB6⟩ : ∃ B6, w1.heap.size = B6 := ⟨_, rfl⟩
              have c6 : wb.cell? ⟨B6, 0, none⟩ = some (.slice VA n vc) := by rw [← hwb, ← hB6]; simp
              have f6 : wb.frozen? ⟨B6, 0, none⟩ = false := by rw [← hwb, ← hB6]; simp
              rw [hwb, hB6]
              rw [hB6] at s1
              have HB6 := Lib.hid hB6
              clear hwb hB6
              replace f4 := (kO.out.frozen (p := ⟨B4, 0, none⟩) (lt_of_cell c4)).trans f4
              replace c4 := kO.cell c4
              replace t0 := kO.cell t0
              replace rB := rangeAt_ext rB kO
              have b46 : B4 ≠ B6 := by omega
              have b06 : w.heap.size ≠ B6 := by have := HB4.out; omega
              have b16 : w.heap.size + 1 ≠ B6 := by have := HB4.out; omega
              refine (HM.out true hm _ (k1.trans kO)).mono ?_
              rintro e w2 ⟨rfl, hx2⟩
              replace f4 := (hx2.out.frozen (p := ⟨B4, 0, none⟩) (lt_of_cell c4)).trans f4
              replace f6 := (hx2.out.frozen (p := ⟨B6, 0, none⟩) (lt_of_cell c6)).trans f6
              replace c4 := hx2.cell c4
              replace c6 := hx2.cell c6
              replace t0 := hx2.cell t0
              replace rB := rangeAt_ext rB hx2
              replace kO := kO.trans hx2
              clear HO HM hm
              go_wp2_with fail
              refine (HI.out _ (k1.trans kO)).mono ?_
              rintro e w3 ⟨⟨Bm, D, rfl, M, hBm⟩, hx3⟩
              replace f4 := (hx3.out.frozen (p := ⟨B4, 0, none⟩) (lt_of_cell c4)).trans f4
              replace f6 := (hx3.out.frozen (p := ⟨B6, 0, none⟩) (lt_of_cell c6)).trans f6
              replace c4 := hx3.cell c4
              replace c6 := hx3.cell c6
              replace t0 := hx3.cell t0
              replace rB := rangeAt_ext rB hx3
              replace kO := kO.trans hx3
              have hown := M.own
              have rR : w3.rangeAt (w.heap.size + 1) 0 (rootC b.root) := rangeAt_part (xs := []) (ys := rootC b.root) (zs := rootC b.up ++ [Value.int .u64 b.slot, Value.int .u64 b.just]) (k := 0) (by rw [List.nil_append, ← List.append_assoc]; exact rB) rfl
              have rU : w3.rangeAt (w.heap.size + 1) 32 (rootC b.up) := by have := rangeAt_part (xs := rootC b.root) (ys := rootC b.up) (zs := [Value.int .u64 b.slot, Value.int .u64 b.just]) (k := 32) rB (rootC_len HBO.out.1); rwa [Nat.zero_add] at this
              have d2 := rangeAt_head rB (j := 64) (v := .int .u64 b.slot) (by unfold Block.cells; simp [rootC_len HBO.out.1, rootC_len HBO.out.2.1])
              have d3 := rangeAt_head rB (j := 65) (v := .int .u64 b.just) (by unfold Block.cells; simp [rootC_len HBO.out.1, rootC_len HBO.out.2.1])
              simp only [Nat.zero_add] at d2 d3
              have hhr := M.has b.root HBO.out.1
              rw [decide_eq_false HR.out] at hhr
              have hhu := M.has b.up HBO.out.2.1
              rw [decide_eq_true HU.out] at hhu
              have hat := M.at_in HRO.out HND.out HU.out
              rw [HP.out] at hat
              have HAT := Lib.hid (fun (c : Int) (hc : D.atKey (keyL b.up) (.lit (.int .i64 0)) = .lit (.int .i64 c)) => (by have := hat.symm.trans hc; simpa using this.symm : c = (p : Int)))
              obtain ⟨bb, off, rfl, hrx, hokx⟩ := (HV.out _ (k1.trans kO)).at' hpl
              have dp := rangeAt_head hrx (Node.at33 hokx)
              change World.cell? _ _ = some (.int .u64 (Tree.nd NS p).slot) at dp
              rw [HSP.out] at dp
              rw [HBS.out] at d2
              clear hrx hokx hat
              go_wp2_with (first | (refine wpList_load_mid rfl 32 _ rfl _ _ rfl (rootC b.root) _ rR Try.underlying32 rfl hi32 ?_) | (refine wpList_load_mid rfl 32 _ rfl _ _ rfl (rootC b.up) _ rU Try.underlying32 rfl hj32 ?_) | (at_lookup; refine wpList_lookup_own_ok_int _ rfl _ _ 57 rfl 32 3 .i64 keyLaw Try.underlying57 Try.underlying3 (zeroI _) Bm _ D rfl hown _ (keyL b.root) rfl (key_is HBO.out.1) ?_; intro c1 hc1 hwc1; rw [hhr]; clear hc1 hwc1) | (at_lookup; refine wpList_lookup_own_ok_int _ rfl _ _ 57 rfl 32 3 .i64 keyLaw Try.underlying57 Try.underlying3 (zeroI _) Bm _ D rfl hown _ (keyL b.up) rfl (key_is HBO.out.2.1) ?_; intro c2 hc2 hwc2; rw [hhu]; obtain rfl := HAT.out c2 hc2; clear hc2 hwc2))
              refine wp_region_quiet_lit (by kernel_rfl) (by kernel_rfl) ?_
              repeat (first | go_big_quiet_skip | (go_big_quiet_want; first | ((fail); (try simp only [Act.put, List.setIfInBounds_toArray, List.set_cons_zero, List.set_cons_succ]); go_big_quiet_on) | (go_big_quiet_op; first | go_big_quiet_on | go_big_quiet_call (fail))))
              refine wpQuiet_nil ?_
              intro _ hw'
              obtain ⟨nq', hw''⟩ := hw'
              subst hw''
              have kd : Ext w3 (w3.drewN nq') := (Ext.refl _).drewN _
              replace f4 := (kd.out.frozen (p := ⟨B4, 0, none⟩) (lt_of_cell c4)).trans f4
              replace f6 := (kd.out.frozen (p := ⟨B6, 0, none⟩) (lt_of_cell c6)).trans f6
              replace c4 := kd.cell c4
              replace c6 := kd.cell c6
              replace t0 := kd.cell t0
              replace rB := rangeAt_ext rB kd
              replace kO := kO.trans kd
              replace d2 := kd.cell d2
              replace d3 := kd.cell d3
              replace rR := rangeAt_ext rR kd
              clear rU hown hhr hhu dp M kd HAT
              generalize w3.drewN nq' = w4 at *
              have gn := HG.out
              go_wp2
              refine bodyPost_ret (v := .tuple #[.agg #[.slice VA n vc], .int .i64 3]) (by simp (maxDischargeDepth := 7) [results, Try.results18, go_sem, c4, f4]) rfl ⟨⟨_, _, _, by rw [HE.out], ?_⟩, ?_⟩
              · rw [HVV.out]
                exact nl_of_own (own_setCell (a := ⟨B4, 0, none⟩) (own_ext HOW.out kO) (by have := HB4.out; show B4 < w.heap.size + 3; omega) _) HBY.out HLE.out HOK.out
              · exact (k1.trans kO).setCell (p := ⟨B4, 0, none⟩) (by have := HB4.out; show w.heap.size ≤ B4; omega) _
            · have HE : Hid (Tree.putE NS b = 0) := by show _ = _; rw [HEQ.out, if_neg (by omega), if_neg h3]
              have HVV : Hid (Tree.putV NS b = NS ++ [Tree.putN NS b]) := by show _ = _; unfold Tree.putV; rw [HE.out, if_pos rfl]
              have gn : ((n : Int) == 12) = false := by first | (simp; done) | (simp; omega)
              obtain ⟨bj, hbj⟩ : ∃ bj, b.just = bj := ⟨_, rfl⟩
              have hxn : Tree.putN NS b = ⟨b.root, (p : Int), bs, bj⟩ := by unfold Tree.putN; rw [HP.out, HBS.out, hbj]
              rw [hxn] at HVV
              have HBJ := Lib.hid hbj
              have hokj := HBO.out.2.2.2
              rw [hbj] at hokj
              have hbuilt := build_node HBO.out.1 (p : Int) bs bj
              have hxok : Node.Ok ⟨b.root, (p : Int), bs, bj⟩ := ⟨HBO.out.1, wf_i64 (x := (p : Int)) (by omega) (by omega), hoku, hokj⟩
              obtain ⟨x, hx⟩ : ∃ x : Node, (⟨b.root, (p : Int), bs, bj⟩ : Node) = x := ⟨_, rfl⟩
              rw [hx] at hbuilt hxok HVV
              have hbuild : List.foldl (fun (c : Array Value) (x : Value × Nat) => c.setIfInBounds x.snd x.fst) (#[Value.int .u8 0, Value.int .u8 0, Value.int .u8 0, Value.int .u8 0, Value.int .u8 0, Value.int .u8 0, Value.int .u8 0, Value.int .u8 0, Value.int .u8 0, Value.int .u8 0, Value.int .u8 0, Value.int .u8 0, Value.int .u8 0, Value.int .u8 0, Value.int .u8 0, Value.int .u8 0, Value.int .u8 0, Value.int .u8 0, Value.int .u8 0, Value.int .u8 0, Value.int .u8 0, Value.int .u8 0, Value.int .u8 0, Value.int .u8 0, Value.int .u8 0, Value.int .u8 0, Value.int .u8 0, Value.int .u8 0, Value.int .u8 0, Value.int .u8 0, Value.int .u8 0, Value.int .u8 0, Value.int .i64 0, Value.int .u64 0, Value.int .u64 0]) x.cells.zipIdx = x.cells.toArray := fold_put0 (by rw [Node.len hxok]; rfl)
              have hl35 := Node.len hxok
              have hs35 : (List.foldl (fun (c : Array Value) (x : Value × Nat) => c.setIfInBounds x.snd x.fst) (#[Value.int .u8 0, Value.int .u8 0, Value.int .u8 0, Value.int .u8 0, Value.int .u8 0, Value.int .u8 0, Value.int .u8 0, Value.int .u8 0, Value.int .u8 0, Value.int .u8 0, Value.int .u8 0, Value.int .u8 0, Value.int .u8 0, Value.int .u8 0, Value.int .u8 0, Value.int .u8 0, Value.int .u8 0, Value.int .u8 0, Value.int .u8 0, Value.int .u8 0, Value.int .u8 0, Value.int .u8 0, Value.int .u8 0, Value.int .u8 0, Value.int .u8 0, Value.int .u8 0, Value.int .u8 0, Value.int .u8 0, Value.int .u8 0, Value.int .u8 0, Value.int .u8 0, Value.int .u8 0, Value.int .i64 0, Value.int .u64 0, Value.int .u64 0]) (rootC b.root).zipIdx).size = 35 := size_put0 _ _
              have HXOK := Lib.hid hxok
              clear h1 h2 hxn hbj hx hxok
              go_enter Try.func18, Try.ntmps18
              go_wp2_with fail
              refine (HO.out _ ((by repeat (first | assumption | exact Ext.refl _ | refine Ext.alloc ?_ _ | refine Ext.drew ?_ | refine Ext.drewN ?_ _ | refine Ext.setCell ?_ (by first | (simp; done) | omega | (simp; omega)) _ | refine Ext.trans (by assumption) ?_)))).mono ?_
              rintro e w1 ⟨⟨v, rfl, hown⟩, hx1⟩
              have k1 : Ext w w1 := Ext.trans ((by repeat (first | assumption | exact Ext.refl _ | refine Ext.alloc ?_ _ | refine Ext.drew ?_ | refine Ext.drewN ?_ _ | refine Ext.setCell ?_ (by first | (simp; done) | omega | (simp; omega)) _ | refine Ext.trans (by assumption) ?_))) hx1
              have t0 := hx1.cell (p := ⟨w.heap.size, 0, none⟩) (v := .slice A n c) (by simp (maxDischargeDepth := 7) [go_sem])
              have rB : w1.rangeAt (w.heap.size + 1) 0 b.cells := rangeAt_ext (rangeAt_ext (range_at (w := w.alloc (.cells #[.slice A n c] 24)) (B := w.heap.size + 1) b.cells 44 (by simp)) ((Ext.refl _).alloc (.cells #[.slice none 0 0] 24))) hx1
              have c4 : w1.cell? ⟨w.heap.size + 2, 0, none⟩ = some (.slice none 0 0) := hx1.cell (by simp (maxDischargeDepth := 7) [go_sem])
              have f4 : w1.frozen? ⟨w.heap.size + 2, 0, none⟩ = false := (hx1.out.frozen (p := ⟨w.heap.size + 2, 0, none⟩) (by simp)).trans (by simp (maxDischargeDepth := 7) [go_sem])
              replace hown := own_base hown (b := w.heap.size + 3) (by simp)
              obtain ⟨B4, hB4⟩ : ∃ B4, w.heap.size + 1 + 1 = B4 := ⟨_, rfl⟩
              have tl : w.heap.size < w1.heap.size := lt_of_cell t0
              rw [show w.heap.size + 2 = B4 from hB4] at c4 f4
              rw [hB4]
              have HB4 := Lib.hid hB4
              have b04 : w.heap.size ≠ B4 := by omega
              have b14 : w.heap.size + 1 ≠ B4 := by omega
              clear hB4
              obtain ⟨VA, vc, rfl⟩ := own_form' hown
              have HOW := Lib.hid hown
              have s1 : B4 < w1.heap.size := lt_of_cell c4
              clear hown
              go_wp2_with fail
              obtain ⟨wb, hwb⟩ : ∃ wb, w1.alloc (.cells #[.slice VA n vc] 24) = wb := ⟨_, rfl⟩
              have kO : Ext w1 wb := by rw [← hwb]; exact (by repeat (first | assumption | exact Ext.refl _ | refine Ext.alloc ?_ _ | refine Ext.drew ?_ | refine Ext.drewN ?_ _ | refine Ext.setCell ?_ (by first | (simp; done) | omega | (simp; omega)) _ | refine Ext.trans (by assumption) ?_))
              obtain ⟨B6, hB6⟩ : ∃ B6, w1.heap.size = B6 := ⟨_, rfl⟩
              have c6 : wb.cell? ⟨B6, 0, none⟩ = some (.slice VA n vc) := by rw [← hwb, ← hB6]; simp
              have f6 : wb.frozen? ⟨B6, 0, none⟩ = false := by rw [← hwb, ← hB6]; simp
              rw [hwb, hB6]
              rw [hB6] at s1
              have HB6 := Lib.hid hB6
              clear hwb hB6
              replace f4 := (kO.out.frozen (p := ⟨B4, 0, none⟩) (lt_of_cell c4)).trans f4
              replace c4 := kO.cell c4
              replace t0 := kO.cell t0
              replace rB := rangeAt_ext rB kO
              have b46 : B4 ≠ B6 := by omega
              have b06 : w.heap.size ≠ B6 := by have := HB4.out; omega
              have b16 : w.heap.size + 1 ≠ B6 := by have := HB4.out; omega
              refine (HM.out true hm _ (k1.trans kO)).mono ?_
              rintro e w2 ⟨rfl, hx2⟩
              replace f4 := (hx2.out.frozen (p := ⟨B4, 0, none⟩) (lt_of_cell c4)).trans f4
              replace f6 := (hx2.out.frozen (p := ⟨B6, 0, none⟩) (lt_of_cell c6)).trans f6
              replace c4 := hx2.cell c4
              replace c6 := hx2.cell c6
              replace t0 := hx2.cell t0
              replace rB := rangeAt_ext rB hx2
              replace kO := kO.trans hx2
              clear HO HM hm
              go_wp2_with fail
              refine (HI.out _ (k1.trans kO)).mono ?_
              rintro e w3 ⟨⟨Bm, D, rfl, M, hBm⟩, hx3⟩
              replace f4 := (hx3.out.frozen (p := ⟨B4, 0, none⟩) (lt_of_cell c4)).trans f4
              replace f6 := (hx3.out.frozen (p := ⟨B6, 0, none⟩) (lt_of_cell c6)).trans f6
              replace c4 := hx3.cell c4
              replace c6 := hx3.cell c6
              replace t0 := hx3.cell t0
              replace rB := rangeAt_ext rB hx3
              replace kO := kO.trans hx3
              have hown := M.own
              have rR : w3.rangeAt (w.heap.size + 1) 0 (rootC b.root) := rangeAt_part (xs := []) (ys := rootC b.root) (zs := rootC b.up ++ [Value.int .u64 b.slot, Value.int .u64 b.just]) (k := 0) (by rw [List.nil_append, ← List.append_assoc]; exact rB) rfl
              have rU : w3.rangeAt (w.heap.size + 1) 32 (rootC b.up) := by have := rangeAt_part (xs := rootC b.root) (ys := rootC b.up) (zs := [Value.int .u64 b.slot, Value.int .u64 b.just]) (k := 32) rB (rootC_len HBO.out.1); rwa [Nat.zero_add] at this
              have d2 := rangeAt_head rB (j := 64) (v := .int .u64 b.slot) (by unfold Block.cells; simp [rootC_len HBO.out.1, rootC_len HBO.out.2.1])
              have d3 := rangeAt_head rB (j := 65) (v := .int .u64 b.just) (by unfold Block.cells; simp [rootC_len HBO.out.1, rootC_len HBO.out.2.1])
              simp only [Nat.zero_add] at d2 d3
              have hhr := M.has b.root HBO.out.1
              rw [decide_eq_false HR.out] at hhr
              have hhu := M.has b.up HBO.out.2.1
              rw [decide_eq_true HU.out] at hhu
              have hat := M.at_in HRO.out HND.out HU.out
              rw [HP.out] at hat
              have HAT := Lib.hid (fun (c : Int) (hc : D.atKey (keyL b.up) (.lit (.int .i64 0)) = .lit (.int .i64 c)) => (by have := hat.symm.trans hc; simpa using this.symm : c = (p : Int)))
              obtain ⟨bb, off, rfl, hrx, hokx⟩ := (HV.out _ (k1.trans kO)).at' hpl
              have dp := rangeAt_head hrx (Node.at33 hokx)
              change World.cell? _ _ = some (.int .u64 (Tree.nd NS p).slot) at dp
              rw [HSP.out] at dp
              rw [HBS.out] at d2
              clear hrx hokx hat
              go_wp2_with (first | (refine wpList_load_mid rfl 32 _ rfl _ _ rfl (rootC b.root) _ rR Try.underlying32 rfl hi32 ?_) | (refine wpList_load_mid rfl 32 _ rfl _ _ rfl (rootC b.up) _ rU Try.underlying32 rfl hj32 ?_) | (at_lookup; refine wpList_lookup_own_ok_int _ rfl _ _ 57 rfl 32 3 .i64 keyLaw Try.underlying57 Try.underlying3 (zeroI _) Bm _ D rfl hown _ (keyL b.root) rfl (key_is HBO.out.1) ?_; intro c1 hc1 hwc1; rw [hhr]; clear hc1 hwc1) | (at_lookup; refine wpList_lookup_own_ok_int _ rfl _ _ 57 rfl 32 3 .i64 keyLaw Try.underlying57 Try.underlying3 (zeroI _) Bm _ D rfl hown _ (keyL b.up) rfl (key_is HBO.out.2.1) ?_; intro c2 hc2 hwc2; rw [hhu]; obtain rfl := HAT.out c2 hc2; clear hc2 hwc2))
              refine wp_region_quiet_lit (by kernel_rfl) (by kernel_rfl) ?_
              repeat (first | go_big_quiet_skip | (go_big_quiet_want; first | ((fail); (try simp only [Act.put, List.setIfInBounds_toArray, List.set_cons_zero, List.set_cons_succ]); go_big_quiet_on) | (go_big_quiet_op; first | go_big_quiet_on | go_big_quiet_call (fail))))
              refine wpQuiet_nil ?_
              intro _ hw'
              obtain ⟨nq', hw''⟩ := hw'
              subst hw''
              have kd : Ext w3 (w3.drewN nq') := (Ext.refl _).drewN _
              replace f4 := (kd.out.frozen (p := ⟨B4, 0, none⟩) (lt_of_cell c4)).trans f4
              replace f6 := (kd.out.frozen (p := ⟨B6, 0, none⟩) (lt_of_cell c6)).trans f6
              replace c4 := kd.cell c4
              replace c6 := kd.cell c6
              replace t0 := kd.cell t0
              replace rB := rangeAt_ext rB kd
              replace kO := kO.trans kd
              replace d2 := kd.cell d2
              replace d3 := kd.cell d3
              replace rR := rangeAt_ext rR kd
              clear rU hown hhr hhu dp M kd HAT
              generalize w3.drewN nq' = w4 at *
              rw [HBJ.out] at d3
              have z1 := kO.size
              have hne6 : (Value.slice VA n vc).ownBlock ≠ some B6 := fun e => by have := (HOW.out.lt _ e).2; have := HB6.out; omega
              have hne4 : (Value.slice VA n vc).ownBlock ≠ some B4 := fun e => by have := own_from HOW.out _ e; have := HB4.out; omega
              have l6 := lt_of_cell c6
              have l4 := lt_of_cell c4
              have hr32 := rootC_len HBO.out.1
              go_upto_region 17 with (first | (refine wpList_load_mid rfl 32 _ rfl _ _ rfl (rootC b.root) _ rR Try.underlying32 rfl hi32 ?_) | (refine wpList_load_mid rfl 32 _ rfl _ _ rfl (rootC b.up) _ rU Try.underlying32 rfl hj32 ?_) | (at_builtin; refine wpList_app rowNodes rfl _ _ rfl (w.heap.size + 3) _ _ _ rfl ((own_ext HOW.out kO).alloc _) (some ⟨w4.heap.size, 0, none⟩) 1 1 x.cells rfl (src_put (by rw [hl35]) (Node.one x) rfl) (by omega) (by have := HB4.out; simp; omega) ?_; intro v5 w5 hown5 hgrow5 hat5; obtain ⟨A5, c5, rfl⟩ := own_form' hown5; have c65 := grownC hgrow5 (((Ext.refl w4).alloc _).cell c6) hne6; have f65 := grownF hgrow5 (((Ext.refl w4).alloc _).cell c6) hne6 ((((Ext.refl w4).alloc _).out.frozen (p := ⟨B6, 0, none⟩) l6).trans f6); have c45 := grownC hgrow5 (((Ext.refl w4).alloc _).cell c4) hne4; have f45 := grownF hgrow5 (((Ext.refl w4).alloc _).cell c4) hne4 ((((Ext.refl w4).alloc _).out.frozen (p := ⟨B4, 0, none⟩) l4).trans f4)))
              have hv5 : (Value.slice A5 (n + 1) c5).ownBlock ≠ some B6 := fun h => hat5.elim (fun e => hne6 (e.symm.trans h)) (fun e => by have := e.symm.trans h; simp at this; omega)
              have kz : Ext w w5 := (((k1.trans kO).alloc _).grown hgrow5 (fun j e => by have := own_from HOW.out j e; omega))
              have HOW5 := Lib.hid hown5
              clear hat5 hown5
              go_wp2
              refine bodyPost_ret (v := .tuple #[.agg #[.slice A5 (n + 1) c5], .int .i64 0]) (by simp (maxDischargeDepth := 7) [results, Try.results18, go_sem, c45, f45, b46]) rfl ⟨⟨_, _, _, by rw [HE.out], ?_⟩, ?_⟩
              · rw [HVV.out]
                refine nl_of_own (base := w.heap.size + 3) ?_ (by omega) (by rw [List.length_append, HLE.out]; rfl) (fun y hy => ?_)
                · rw [flatN_snoc]
                  exact own_setCell (a := ⟨B4, 0, none⟩) (own_setO (a := ⟨B6, 0, none⟩) HOW5.out hv5 _) (by have := HB4.out; show B4 < w.heap.size + 3; omega) _
                · rcases List.mem_append.1 hy with hy | hy
                  · exact HOK.out y hy
                  · rw [List.mem_singleton.1 hy]; exact HXOK.out
              · exact (kz.setCell (p := ⟨B6, 0, none⟩) (by have := HB6.out; have := HB4.out; show w.heap.size ≤ B6; omega) _).setCell (p := ⟨B4, 0, none⟩) (by have := HB4.out; show w.heap.size ≤ B4; omega) _
      · have HE : Hid (Tree.putE NS b = 5) := by show _ = _; unfold Tree.putE; rw [if_pos hm, if_neg hr, if_neg hu]
        have HVV : Hid (Tree.putV NS b = NS) := by show _ = _; unfold Tree.putV; rw [HE.out, if_neg (by decide)]
        have HR := Lib.hid hr
        have HU := Lib.hid hu
        clear hr hnd hu
        go_enter Try.func18, Try.ntmps18
        go_wp2_with fail
        refine (HO.out _ ((by repeat (first | assumption | exact Ext.refl _ | refine Ext.alloc ?_ _ | refine Ext.drew ?_ | refine Ext.drewN ?_ _ | refine Ext.setCell ?_ (by first | (simp; done) | omega | (simp; omega)) _ | refine Ext.trans (by assumption) ?_)))).mono ?_
        rintro e w1 ⟨⟨v, rfl, hown⟩, hx1⟩
        have k1 : Ext w w1 := Ext.trans ((by repeat (first | assumption | exact Ext.refl _ | refine Ext.alloc ?_ _ | refine Ext.drew ?_ | refine Ext.drewN ?_ _ | refine Ext.setCell ?_ (by first | (simp; done) | omega | (simp; omega)) _ | refine Ext.trans (by assumption) ?_))) hx1
        have t0 := hx1.cell (p := ⟨w.heap.size, 0, none⟩) (v := .slice A n c) (by simp (maxDischargeDepth := 7) [go_sem])
        have rB : w1.rangeAt (w.heap.size + 1) 0 b.cells := rangeAt_ext (rangeAt_ext (range_at (w := w.alloc (.cells #[.slice A n c] 24)) (B := w.heap.size + 1) b.cells 44 (by simp)) ((Ext.refl _).alloc (.cells #[.slice none 0 0] 24))) hx1
        have c4 : w1.cell? ⟨w.heap.size + 2, 0, none⟩ = some (.slice none 0 0) := hx1.cell (by simp (maxDischargeDepth := 7) [go_sem])
        have f4 : w1.frozen? ⟨w.heap.size + 2, 0, none⟩ = false := (hx1.out.frozen (p := ⟨w.heap.size + 2, 0, none⟩) (by simp)).trans (by simp (maxDischargeDepth := 7) [go_sem])
        replace hown := own_base hown (b := w.heap.size + 3) (by simp)
        obtain ⟨B4, hB4⟩ : ∃ B4, w.heap.size + 1 + 1 = B4 := ⟨_, rfl⟩
        have tl : w.heap.size < w1.heap.size := lt_of_cell t0
        rw [show w.heap.size + 2 = B4 from hB4] at c4 f4
        rw [hB4]
        have HB4 := Lib.hid hB4
        have b04 : w.heap.size ≠ B4 := by omega
        have b14 : w.heap.size + 1 ≠ B4 := by omega
        clear hB4
        obtain ⟨VA, vc, rfl⟩ := own_form' hown
        have HOW := Lib.hid hown
        have s1 : B4 < w1.heap.size := lt_of_cell c4
        clear hown
        go_wp2_with fail
        obtain ⟨wb, hwb⟩ : ∃ wb, w1.alloc (.cells #[.slice VA n vc] 24) = wb := ⟨_, rfl⟩
        have kO : Ext w1 wb := by rw [← hwb]; exact (by repeat (first | assumption | exact Ext.refl _ | refine Ext.alloc ?_ _ | refine Ext.drew ?_ | refine Ext.drewN ?_ _ | refine Ext.setCell ?_ (by first | (simp; done) | omega | (simp; omega)) _ | refine Ext.trans (by assumption) ?_))
        obtain ⟨B6, hB6⟩ : ∃ B6, w1.heap.size = B6 := ⟨_, rfl⟩
        have c6 : wb.cell? ⟨B6, 0, none⟩ = some (.slice VA n vc) := by rw [← hwb, ← hB6]; simp
        have f6 : wb.frozen? ⟨B6, 0, none⟩ = false := by rw [← hwb, ← hB6]; simp
        rw [hwb, hB6]
        rw [hB6] at s1
        have HB6 := Lib.hid hB6
        clear hwb hB6
        replace f4 := (kO.out.frozen (p := ⟨B4, 0, none⟩) (lt_of_cell c4)).trans f4
        replace c4 := kO.cell c4
        replace t0 := kO.cell t0
        replace rB := rangeAt_ext rB kO
        have b46 : B4 ≠ B6 := by omega
        have b06 : w.heap.size ≠ B6 := by have := HB4.out; omega
        have b16 : w.heap.size + 1 ≠ B6 := by have := HB4.out; omega
        refine (HM.out true hm _ (k1.trans kO)).mono ?_
        rintro e w2 ⟨rfl, hx2⟩
        replace f4 := (hx2.out.frozen (p := ⟨B4, 0, none⟩) (lt_of_cell c4)).trans f4
        replace f6 := (hx2.out.frozen (p := ⟨B6, 0, none⟩) (lt_of_cell c6)).trans f6
        replace c4 := hx2.cell c4
        replace c6 := hx2.cell c6
        replace t0 := hx2.cell t0
        replace rB := rangeAt_ext rB hx2
        replace kO := kO.trans hx2
        clear HO HM hm
        go_wp2_with fail
        refine (HI.out _ (k1.trans kO)).mono ?_
        rintro e w3 ⟨⟨Bm, D, rfl, M, hBm⟩, hx3⟩
        replace f4 := (hx3.out.frozen (p := ⟨B4, 0, none⟩) (lt_of_cell c4)).trans f4
        replace f6 := (hx3.out.frozen (p := ⟨B6, 0, none⟩) (lt_of_cell c6)).trans f6
        replace c4 := hx3.cell c4
        replace c6 := hx3.cell c6
        replace t0 := hx3.cell t0
        replace rB := rangeAt_ext rB hx3
        replace kO := kO.trans hx3
        have hown := M.own
        have rR : w3.rangeAt (w.heap.size + 1) 0 (rootC b.root) := rangeAt_part (xs := []) (ys := rootC b.root) (zs := rootC b.up ++ [Value.int .u64 b.slot, Value.int .u64 b.just]) (k := 0) (by rw [List.nil_append, ← List.append_assoc]; exact rB) rfl
        have rU : w3.rangeAt (w.heap.size + 1) 32 (rootC b.up) := by have := rangeAt_part (xs := rootC b.root) (ys := rootC b.up) (zs := [Value.int .u64 b.slot, Value.int .u64 b.just]) (k := 32) rB (rootC_len HBO.out.1); rwa [Nat.zero_add] at this
        have d2 := rangeAt_head rB (j := 64) (v := .int .u64 b.slot) (by unfold Block.cells; simp [rootC_len HBO.out.1, rootC_len HBO.out.2.1])
        have d3 := rangeAt_head rB (j := 65) (v := .int .u64 b.just) (by unfold Block.cells; simp [rootC_len HBO.out.1, rootC_len HBO.out.2.1])
        simp only [Nat.zero_add] at d2 d3
        have hhr := M.has b.root HBO.out.1
        rw [decide_eq_false HR.out] at hhr
        have hhu := M.has b.up HBO.out.2.1
        rw [decide_eq_false HU.out] at hhu
        go_wp2_with (first | (refine wpList_load_mid rfl 32 _ rfl _ _ rfl (rootC b.root) _ rR Try.underlying32 rfl hi32 ?_) | (refine wpList_load_mid rfl 32 _ rfl _ _ rfl (rootC b.up) _ rU Try.underlying32 rfl hj32 ?_) | (at_lookup; refine wpList_lookup_own_ok_int _ rfl _ _ 57 rfl 32 3 .i64 keyLaw Try.underlying57 Try.underlying3 (zeroI _) Bm _ D rfl hown _ (keyL b.root) rfl (key_is HBO.out.1) ?_; intro c1 hc1 hwc1; rw [hhr]) | (at_lookup; refine wpList_lookup_own_ok_int _ rfl _ _ 57 rfl 32 3 .i64 keyLaw Try.underlying57 Try.underlying3 (zeroI _) Bm _ D rfl hown _ (keyL b.up) rfl (key_is HBO.out.2.1) ?_; intro c2 hc2 hwc2; rw [hhu]))
        refine bodyPost_ret (v := .tuple #[.agg #[.slice VA n vc], .int .i64 5]) (by simp (maxDischargeDepth := 7) [results, Try.results18, go_sem, c4, f4]) rfl ⟨⟨_, _, _, by rw [HE.out], ?_⟩, ?_⟩
        · rw [HVV.out]
          exact nl_of_own (own_setCell (a := ⟨B4, 0, none⟩) (own_ext HOW.out kO) (by have := HB4.out; show B4 < w.heap.size + 3; omega) _) HBY.out HLE.out HOK.out
        · exact (k1.trans kO).setCell (p := ⟨B4, 0, none⟩) (by have := HB4.out; show w.heap.size ≤ B4; omega) _
end Go.Proofs.Ytoifhpcpahfddaa
