/- The sums' and the steps' contracts with what they answer named; a row of zeros that is made. -/
import Derived.Test.YtdeeplfbdoapmaaWeightLaw
namespace Go.Proofs.Ytdeeplfbdoapmaa
open Go.RowKit Go.WideShapes Go.ChangeShapes
set_option linter.unusedVariables false
set_option linter.unusedSimpArgs false
theorem sub_is (A : Option Addr) (n c : Nat) (NS : List Node) (B : Option Addr) (m d : Nat) (l : List Int) (b : Bool) (r : List Int) (hb : (Weight.subV NS l).isSome = b) (hr : (Weight.subV NS l).getD [] = r) (w : World) (h : NL w A n c NS) (hl : Ints w .u64 B m d l) :
    Calls Try.prog 10 #[.agg #[.slice A n c], .slice B m d] w fun e w' => (∃ v, e = .returned (.tuple #[v, .bool b]) ∧ IsInts w' .u64 v r) ∧ Ext w w' := by
  subst hb hr
  exact (sub_w_any A n c NS B m d l w h hl).mono fun e w' ⟨⟨v, he, hv⟩, hx⟩ => ⟨⟨v, he, hv.ints⟩, hx⟩
theorem pass_is (A : Option Addr) (n c : Nat) (NS : List Node) (WA : Option Addr) (wn wc : Nat) (lw : List Int) (PA : Option Addr) (pn pc : Nat) (lp : List Int) (MA : Option Addr) (mn mc : Nat) (lm : List Int) (b : Bool) (r : List Int) (hb : (Weight.passV NS lw lp lm).isSome = b) (hr : (Weight.passV NS lw lp lm).getD [] = r) (w : World) (h : NL w A n c NS) (hw : Ints w .u64 WA wn wc lw) (hp : Ints w .u64 PA pn pc lp) (hmi : Ints w .u64 MA mn mc lm) :
    Calls Try.prog 12 #[.agg #[.slice A n c], .slice WA wn wc, .slice PA pn pc, .slice MA mn mc] w fun e w' => (∃ v, e = .returned (.tuple #[v, .bool b]) ∧ IsInts w' .u64 v r) ∧ Ext w w' := by
  subst hb hr
  exact (pass_any A n c NS WA wn wc lw PA pn pc lp MA mn mc lm w h hw hp hmi).mono fun e w' ⟨⟨v, he, hv⟩, hx⟩ => ⟨⟨v, he, hv.ints⟩, hx⟩
theorem rsame_is (A : Option Addr) (n c : Nat) (B : Option Addr) (n' d : Nat) (l m : List Int) (q : Bool) (hq : decide (l = m) = q) (w : World) (h : Ints w .u64 A n c l) (g : Ints w .u64 B n' d m) :
    Calls Try.prog 14 #[.slice A n c, .slice B n' d] w fun e w' => e = .returned (.bool q) ∧ Ext w w' := by
  subst hq; exact rsame64_any A n c B n' d l m w h g
theorem make_zeros (n : Nat) (hn : n ≤ 17592186043904) (W : World) :
    (Instr.makeSlice 25 (.int .i64 (n : Int)) (.int .i64 (n : Int))).run Try.prog W = .ok (.slice (some ⟨W.heap.size, 0, none⟩) n n) (W.alloc (.cells ((Weight.zeros n).map (Value.int .u64)).toArray 33)) := by
  obtain ⟨i0, hi, hz0, hz1, hz2⟩ := info_parts (show (Try.prog.info? 33).map (fun i => (i.zero, i.size, i.bytes)) = some (some (.int .u64 0), 1, 8) by kernel_rfl)
  have h := run_make (P := Try.prog) W 25 33 i0 _ Try.underlying25 hi hz0 .i64 .i64 (n : Int) (n : Int) (by omega) (Int.le_refl _) (by rw [hz2]; omega) (by omega)
  rw [hz1, Nat.mul_one] at h
  simp only [Int.toNat_natCast] at h
  have e : madeCells (Value.int .u64 0).cells n = ((Weight.zeros n).map (Value.int .u64)).toArray := by
    apply Array.toList_inj.1
    unfold Weight.zeros
    rw [List.map_replicate]
    exact toList_madeCells_one _ n
  rw [e] at h
  exact h
theorem zeros_at {w : World} {B : Nat} (n : Nat) (hn : n ≤ 17592186043904) (hB : B = w.heap.size) : Ints (w.alloc (.cells ((Weight.zeros n).map (Value.int .u64)).toArray 33)) .u64 (some ⟨B, 0, none⟩) n n (Weight.zeros n) := by
  have h := ints_at' (w := w) (B := B) (k := .u64) (e := 33) (Weight.zeros n) (Weight.zeros_wf n) (by rw [Weight.zeros_len]; exact hn) hB
  rw [Weight.zeros_len] at h
  exact h
end Go.Proofs.Ytdeeplfbdoapmaa
