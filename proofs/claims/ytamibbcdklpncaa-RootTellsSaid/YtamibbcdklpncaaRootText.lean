/- root.Text: a root's text. -/
import Derived.Test.YtamibbcdklpncaaRootCmp
import Derived.Test.YtamibbcdklpncaaShelf
import Derived.Test.YtamibbcdklpncaaRootPut
namespace Go.Proofs.Ytamibbcdklpncaa
open Go.RowKit Go.WideShapes Go.ChangeShapes
set_option linter.unusedVariables false
set_option linter.unusedSimpArgs false



namespace Root
def digs : List UInt8 := [48, 49, 50, 51, 52, 53, 54, 55, 56, 57, 97, 98, 99, 100, 101, 102]
/-- A digit. -/
def dg (n : Nat) : UInt8 := digs.getD n 0
def two (x : Int) : List UInt8 := [dg (x.toNat / 16), dg (x.toNat % 16)]
def textV (r : List Int) : List UInt8 := r.flatMap two
theorem text_len (r : List Int) : (textV r).length = 2 * r.length := by
  induction r with
  | nil => rfl
  | cons x r ih => unfold textV at *; simp [two, ih]; omega
theorem text_take {r : List Int} {k : Nat} (h : k < r.length) : textV (r.take (k + 1)) = textV (r.take k) ++ two (nth r k) := by
  rw [take_nth h]; unfold textV; simp
def dgs : ByteArray := ⟨#[48, 49, 50, 51, 52, 53, 54, 55, 56, 57, 97, 98, 99, 100, 101, 102]⟩
theorem dgs_get : ∀ (n : Nat) (h : n < dgs.size), dgs[n]'h = dg n := by
  intro n h
  have : n < 16 := h
  rcases n with _ | _ | _ | _ | _ | _ | _ | _ | _ | _ | _ | _ | _ | _ | _ | _ | n <;> first | rfl | omega
end Root
theorem wp_index_as {P : Program} {o : Oper} {a : Act} {w : World} {K : Act → World → Prop} {Q : Exit → Act → World → Prop} (t : TypeId) (x ix : Operand) (ho : o.op = .index t x ix) (v : Value) (hr : (Instr.index t (a.eval x) (a.eval ix)).run P w = .ok v w)
    (h : K (a.put o.dst v) w) : o.wp P a w K Q := by
  unfold Oper.wp execOp
  simp only [ho, Sem.run_bind, hr, Result.andThen_ok]
  exact h
theorem wpList_index_as {P : Program} {ops : Array Oper} {rest : List Oper} {o : Oper} {a : Act} {w : World} {Q : Exit → Act → World → Prop} (hg : o.guard = none) (t : TypeId) (x ix : Operand) (ho : o.op = .index t x ix) (v : Value) (hr : (Instr.index t (a.eval x) (a.eval ix)).run P w = .ok v w)
    (h : wpList P ops Q rest (a.put o.dst v) w) : wpList P ops Q (o :: rest) a w :=
  wpList_plain hg fun _ hK => wp_index_as t x ix ho v hr (hK _ _ h)
/-- A byte of a root. -/
theorem root_index {r : List Int} (h : RootOk r) {k : Nat} (hk : k < 32) (w : World) : (Instr.index 23 (.agg (rootC r).toArray) (.int .i64 k)).run Try.prog w = .ok (.int .u8 (nth r k)) w := by
  have hu := Try.underlying23
  have h1 : (0 : Int) ≤ k ∧ (k : Int) < 32 := by omega
  have h2 := root_nth h hk
  simp [Instr.index, run_underlying hu, asIntOf, h1, h2, go_sem]
  intro h'
  omega
theorem byte_range {r : List Int} (h : RootOk r) (k : Nat) : 0 ≤ nth r k ∧ nth r k ≤ 255 := by
  unfold nth
  by_cases hk : k < r.length
  · have := h.2 r[k] (List.getElem_mem hk)
    simp [Lit.wf, IntKind.min, IntKind.max, IntKind.signed, IntKind.bits] at this
    simp [hk]; omega
  · simp [hk]
theorem dig_index {n : Int} (h0 : 0 ≤ n) (h1 : n < 16) (w : World) : (Instr.index 9 (.string Root.dgs) (.int .u8 n)).run Try.prog w = .ok (.int .u8 (Root.dg n.toNat).toNat) w := by
  rw [run_index_string _ _ _ _ _ Try.underlying9]
  have hs : (Root.dgs.size : Int) = 16 := rfl
  rw [dif_pos (by omega), Root.dgs_get]
set_option maxHeartbeats 2000000 in
set_option maxRecDepth 100000 in
theorem text_any (r : List Int) (hr : RootOk r) (w : World) : Calls Try.prog 17 #[.agg (rootC r).toArray] w fun e w' => e = .returned (.string ⟨(Root.textV r).toArray⟩) ∧ Ext w w' := by
  have hia : (Try.prog.info? 23).map (·.size) = some (rootC r).length := by rw [rootC_len hr]; kernel_rfl
  have ra := range_new w (rootC r) 23
  have HI := Lib.hid (fun (k : Nat) (hk : k < 32) W => root_index hr hk W)
  have HB := Lib.hid (fun k => byte_range hr k)
  have HT := Lib.hid (fun (k : Nat) (hk : k < 32) => Root.text_take (r := r) (k := k) (by rw [hr.1]; exact hk))
  have HN := Lib.hid hr
  clear hr
  go_enter Try.func17, Try.ntmps17
  go_wp2_with (refine wpList_load_mid rfl 23 _ rfl _ _ rfl (rootC r) _ (rangeAt_ext ra ((by repeat (first | assumption | exact Ext.refl _ | refine Ext.alloc ?_ _ | refine Ext.drew ?_ | refine Ext.drewN ?_ _ | refine Ext.setCell ?_ (by first | (simp; done) | omega | (simp; omega)) _ | refine Ext.trans (by assumption) ?_)))) Try.underlying23 rfl hia ?_)
  have B0 : Lib.IsBuilder 47 5 (w.heap.size + 1) (w.heap.size + 1) [] ((w.alloc (.cells (rootC r).toArray 23)).alloc (.cells #[.pointer none, .slice none 0 0] 47)) := by
    have := Lib.fresh_isBuilder 47 5 (w.alloc (.cells (rootC r).toArray 23))
    simpa using this
  go_loopw [5, 7] (fun _ i wr => ∃ k : Nat, k ≤ 32 ∧ i = .int .i64 k ∧ Lib.IsBuilder 47 5 (w.heap.size + 1) (w.heap.size + 1) (Lib.byteCells (Root.textV (r.take k))) wr ∧ Ext w wr ∧ w.heap.size + 2 ≤ wr.heap.size) (fun _ i _ => 32 - (intOf i).toNat)
  case atStart => exact ⟨0, by omega, rfl, B0, (by repeat (first | assumption | exact Ext.refl _ | refine Ext.alloc ?_ _ | refine Ext.drew ?_ | refine Ext.drewN ?_ _ | refine Ext.setCell ?_ (by first | (simp; done) | omega | (simp; omega)) _ | refine Ext.trans (by assumption) ?_)), by simp⟩
  case round =>
    obtain ⟨k, hk, rfl, hB, hx, hsz⟩ := hrel
    clear B0 ra
    by_cases hlt : k < 32
    · have h0 := HB.out k
      have hi := fun W => HI.out k hlt W
      have HTK := Lib.hid (HT.out k hlt)
      have hlk : (Lib.byteCells (Root.textV (r.take k))).length = 2 * k := by
        rw [Lib.byteCells_length, Root.text_len, List.length_take, HN.out.1]; omega
      obtain ⟨bs, hbs⟩ : ∃ bs, Lib.byteCells (Root.textV (r.take k)) = bs := ⟨_, rfl⟩
      rw [hbs] at hB hlk
      have HBS := Lib.hid hbs
      clear hbs
      generalize nth r k = c at h0 hi HTK
      have hi1 := fun W => dig_index (n := c / 16) (by omega) (by omega) W
      have hi2 := fun W => dig_index (n := c % 16) (by omega) (by omega) W
      go_wp2_with (first | (refine wpList_index_as rfl _ _ _ rfl _ (hi _) ?_) | (refine wpList_index_as rfl _ _ _ rfl _ (hi1 _) ?_) | (refine wpList_index_as rfl _ _ _ rfl _ (hi2 _) ?_))
      refine (writeByte_any (w.heap.size + 1) (w.heap.size + 1) bs _ wr hB (by omega) (by omega)).mono ?_
      rintro e w1 ⟨rfl, hB1, b1⟩
      have z1 := b1.size
      go_wp2_with (first | (refine wpList_index_as rfl _ _ _ rfl _ (hi2 _) ?_))
      refine (writeByte_any (w.heap.size + 1) (w.heap.size + 1) _ _ w1 hB1 (by simp; omega) (by omega)).mono ?_
      rintro e w2 ⟨rfl, hB2, b2⟩
      have z2 := b2.size
      have e2 : Lib.byteCells (Root.two c) = [.int .u8 (Root.dg (c / 16).toNat).toNat, .int .u8 (Root.dg (c % 16).toNat).toNat] := by
        have d1 : (c / 16).toNat = c.toNat / 16 := by omega
        have d2 : (c % 16).toNat = c.toNat % 16 := by omega
        rw [d1, d2]; rfl
      have k2 : Ext w w2 := ⟨hx.out.trans ((b1.trans b2).mono (by omega))⟩
      go_wp2
      go_roundw
      case rel =>
        refine ⟨k + 1, by omega, by go_num, ?_, k2, by omega⟩
        rw [HTK.out, Lib.byteCells_append, HBS.out, e2]
        simpa using hB2
      case measure => simp [intOf]; omega
    · have e : k = 32 := by omega
      subst e
      have ht : r.take 32 = r := List.take_of_length_le (by rw [HN.out.1]; omega)
      rw [ht] at hB
      go_wp2_with fail
      refine (Try.Builder_String_any (w.heap.size + 1) (w.heap.size + 1) _ wr hB (by omega)).mono ?_
      rintro e w1 ⟨rfl, b1⟩
      go_wp2
      go_ret
      exact ⟨rfl, ⟨hx.out.trans (b1.mono (by omega))⟩⟩
end Go.Proofs.Ytamibbcdklpncaa
