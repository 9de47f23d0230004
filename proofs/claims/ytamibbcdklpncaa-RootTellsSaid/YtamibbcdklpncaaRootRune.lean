/- strings.IndexRune at the digits: a rune that is no ASCII is not there. -/
import Derived.Test.YtamibbcdklpncaaRootText
import Derived.Laws.RangeAny
import Derived.Laws.Runes
import Derived.Lib.OthersKept
namespace Go.Proofs.Ytamibbcdklpncaa
open Go.RowKit Go.WideShapes Go.ChangeShapes
set_option linter.unusedVariables false
set_option linter.unusedSimpArgs false
namespace Root
theorem dgs_low : ∀ (n : Nat) (h : n < dgs.size), (dgs[n]'h).toNat < 128 := by
  intro n h
  have h1 : n < 16 := h
  rw [dgs_get]
  exact (by decide : ∀ n, n < 16 → (dg n).toNat < 128) n h1
theorem digs_low : ∀ b ∈ digs, b.toNat < 128 := by decide
theorem index_none : ∀ (l : List UInt8) (c : UInt8), (∀ b ∈ l, b ≠ c) → Lib.indexByte l c = -1
  | [], _, _ => rfl
  | b :: l, c, h => by
    have h1 : (b == c) = false := by simpa using h b (by simp)
    unfold Lib.indexByte
    rw [h1, index_none l c (fun x hx => h x (by simp [hx]))]
    rfl
theorem index_cut (m : Nat) (c : UInt8) (hc : 128 ≤ c.toNat) : Lib.indexByte ((dgs.extract m 16).data.toList) c = -1 :=
  index_none _ _ fun b hb e => by
    have := digs_low b (by have := mem_extract hb; exact this)
    rw [e] at this; omega
end Root
set_option maxHeartbeats 2000000 in
set_option maxRecDepth 100000 in
theorem indexRune_err (w : World) : Calls Try.prog 19 #[.string Root.dgs, .int .i32 65533] w fun e w' => e = .returned (.int .i64 (-1)) ∧ Ext w w' := by
  have HL := Lib.hid Root.dgs_low
  have hsz : Root.dgs.size = 16 := rfl
  go_enter Try.func19, Try.ntmps19
  go_wp2
  go_loopw [5, 6] (fun _ _ wr => ∃ k : Nat, k ≤ 16 ∧ wr = w.iter Root.dgs k) (fun _ _ wr => 16 - wr.iterPos w.heap.size)
  case atStart => exact ⟨0, by omega, rfl⟩
  case round =>
    obtain ⟨k, hk, rfl⟩ := hrel
    by_cases hlt : k < Root.dgs.size
    · have ha := HL.out k hlt
      have hnx := fun ty => run_next_ascii (P := Try.prog) w Root.dgs k ty hlt ha
      go_wp2
      go_roundw
      case rel => exact ⟨k + 1, by omega, rfl⟩
      case measure => simp [World.iterPos, World.iter_heap]; omega
    · have hnx := fun ty => run_next_end (P := Try.prog) w Root.dgs k ty hlt
      go_wp2
      go_ret
      exact ⟨rfl, ⟨(Below.refl _ _).alloc (Nat.le_refl _) _⟩⟩
set_option maxHeartbeats 2000000 in
set_option maxRecDepth 100000 in
theorem indexRune_bad (r : Int) (w : World) (h0 : 128 ≤ r) (h1 : r ≤ 1114111) (h2 : Lib.validRune r = false) : Calls Try.prog 19 #[.string Root.dgs, .int .i32 r] w fun e w' => e = .returned (.int .i64 (-1)) ∧ Ext w w' := by
  have hne : r ≠ 65533 := fun e => by rw [e] at h2; revert h2; decide
  have hv := fun W => Try.utf8_ValidRune r W
  rw [h2] at hv
  go_enter Try.func19, Try.ntmps19
  go_wp2_with (go_at_call 27; refine (hv _).mono ?_; rintro e w' ⟨rfl, rfl⟩)
  go_ret
  exact ⟨rfl, Ext.refl _⟩
set_option maxHeartbeats 2000000 in
set_option maxRecDepth 100000 in
theorem indexRune_late (r : Int) (w : World) (h0 : 128 ≤ r) (h1 : r ≤ 1114111) (h2 : Lib.validRune r = true) (hne : r ≠ 65533) : Calls Try.prog 19 #[.string Root.dgs, .int .i32 r] w fun e w' => e = .returned (.int .i64 (-1)) ∧ Ext w w' := by
  have hv := fun W => Try.utf8_ValidRune r W
  rw [h2] at hv
  obtain ⟨s1, s2, s3⟩ := encode_facts r (by rw [validRune_eq]; exact h2) h0
  have hcv := fun W => run_convert_int_string (P := Try.prog) W 21 9 .i32 r (by rw [Try.underlying21]; rfl) Try.underlying9
  obtain ⟨m, hm⟩ : ∃ m, (Utf8.encode r).size = m + 1 := ⟨(Utf8.encode r).size - 1, by omega⟩
  have hm3 : 1 ≤ m ∧ m ≤ 3 := by omega
  obtain ⟨d, hd, hi1⟩ : ∃ d : UInt8, d.toNat < 128 ∧ ∀ W, (Instr.index 9 (.string Root.dgs) (.int .i64 m)).run Try.prog W = .ok (.int .u8 d.toNat) W := by
    have hs : Root.dgs.size = 16 := rfl
    have hmd : m < Root.dgs.size := by omega
    refine ⟨Root.dgs[m], Root.dgs_low m hmd, fun W => ?_⟩
    rw [run_index_string _ _ _ _ _ Try.underlying9, dif_pos (by omega)]
    rfl
  obtain ⟨c, hc, hi2⟩ : ∃ c : UInt8, 128 ≤ c.toNat ∧ ∀ W, (Instr.index 9 (.string (Utf8.encode r)) (.int .i64 m)).run Try.prog W = .ok (.int .u8 c.toNat) W := by
    have hmE : m < (Utf8.encode r).size := by omega
    have hl : 128 ≤ ((Utf8.encode r)[m]'hmE).toNat := by have := s3 (by omega); simpa [hm] using this
    refine ⟨(Utf8.encode r)[m], hl, fun W => ?_⟩
    rw [run_index_string _ _ _ _ _ Try.underlying9, dif_pos (show (0 : Int) ≤ (m : Int) ∧ (m : Int) < ((Utf8.encode r).size : Int) by omega)]
    rfl
  clear s1 s2 s3
  have hix := fun W => Try.strings_IndexByte (Root.dgs.extract (m + 1) 16) c.toNat W
  have hcc : (c.toNat : Int).toNat.toUInt8 = c := by simp
  rw [hcc, Root.index_cut (m + 1) c hc] at hix
  generalize Utf8.encode r = E at hcv hi2 hm
  have hneq : decide ((d.toNat : Int) = (c.toNat : Int)) = false := by rw [decide_eq_false_iff_not]; omega
  have g1 : IntKind.i64.wrap ((E.size : Int) - 1) = m := by
    have e1 : (E.size : Int) - 1 = m := by omega
    rw [e1]
    exact wrap_small _ (by omega) (by omega)
  have hsz : Root.dgs.size = 16 := rfl
  have g2 : IntKind.i64.wrap ((m : Int) + 1) = (m : Int) + 1 := wrap_small _ (by omega) (by omega)
  go_enter Try.func19, Try.ntmps19
  go_wp2_with (go_at_call 27; refine (hv _).mono ?_; rintro e w' ⟨rfl, hw⟩; rw [hw]; clear hw)
  refine wp_scope_straight ?_
  go_wp2
  refine wp_loop_rounds 1 ?_
  rw [rounds_succ]
  go_wp2
  refine wp_scope_straight ?_
  go_wp2
  go_quiet (fail)
  have x1 : Ext w (w.drewN nq) := (by repeat (first | assumption | exact Ext.refl _ | refine Ext.alloc ?_ _ | refine Ext.drew ?_ | refine Ext.drewN ?_ _ | refine Ext.setCell ?_ (by first | (simp; done) | omega | (simp; omega)) _ | refine Ext.trans (by assumption) ?_))
  generalize w.drewN nq = w1 at x1 ⊢
  go_wp2
  go_quiet ((go_at_call 26; refine Calls.quiet_of_same (hix _)))
  go_wp2
  simp only [Exit.noGoto, Exit.inBlock, Exit.then]
  go_ret
  exact ⟨rfl, (by repeat (first | assumption | exact Ext.refl _ | refine Ext.alloc ?_ _ | refine Ext.drew ?_ | refine Ext.drewN ?_ _ | refine Ext.setCell ?_ (by first | (simp; done) | omega | (simp; omega)) _ | refine Ext.trans (by assumption) ?_))⟩
theorem indexRune_high (r : Int) (w : World) (h0 : 128 ≤ r) (h1 : r ≤ 1114111) : Calls Try.prog 19 #[.string Root.dgs, .int .i32 r] w fun e w' => e = .returned (.int .i64 (-1)) ∧ Ext w w' := by
  by_cases hne : r = 65533
  · subst hne; exact indexRune_err w
  · cases h2 : Lib.validRune r with
    | false => exact indexRune_bad r w h0 h1 h2
    | true => exact indexRune_late r w h0 h1 h2 hne
end Go.Proofs.Ytamibbcdklpncaa
