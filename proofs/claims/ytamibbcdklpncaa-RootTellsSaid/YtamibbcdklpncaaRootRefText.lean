/- The document's Text. -/
import Derived.Test.YtamibbcdklpncaaRootRef
import Derived.Laws.Concat
namespace Go.Proofs.Ytamibbcdklpncaa
open Go.RowKit Go.WideShapes Go.ChangeShapes
set_option linter.unusedVariables false
set_option linter.unusedSimpArgs false


theorem cut_one : ∀ n, n < 16 → Root.dgs.extract n (n + 1) = ⟨#[Root.dg n]⟩ := by decide +kernel
theorem quiet_cat {P : Program} {o : Oper} {a : Act} {C : World → Prop} {next : Act → Prop} (t : TypeId) (x y : Operand) (yt : TypeId) (ho : o.op = .binOp .add t x y yt) (S T S' : ByteArray) (hx : a.eval x = .string S) (hy : a.eval y = .string T) (hsz : S.size + T.size ≤ 9223372036854775807) (he : S ++ T = S') (h : next (a.put o.dst (.string S'))) : o.quiet P a C next :=
  ⟨.string S', fun w hw => by
    unfold Oper.quietAt execOp
    simp only [ho, hx, hy, eqGuard_add, binOp_string_add, Sem.run_bind, Sem.run_pure, Result.andThen_ok, run_string_add_sum w S T hsz, he]
    exact ⟨rfl, rfl⟩, h⟩
theorem cat_dig {T : List UInt8} {n : Int} (h0 : 0 ≤ n) (h1 : n < 16) : (⟨T.toArray⟩ : ByteArray) ++ Root.dgs.extract n.toNat (n + 1).toNat = ⟨(T ++ [Root.dg n.toNat]).toArray⟩ := by
  rw [show (n + 1).toNat = n.toNat + 1 by omega, cut_one _ (by omega)]
  apply ByteArray.ext
  simp
theorem size_mk (T : List UInt8) : (⟨T.toArray⟩ : ByteArray).size = T.length := by show T.toArray.size = T.length; simp
theorem cut_size {n : Int} (h0 : 0 ≤ n) (h1 : n < 16) : (Root.dgs.extract n.toNat (n + 1).toNat).size = 1 := by
  rw [show (n + 1).toNat = n.toNat + 1 by omega, cut_one _ (by omega)]
  rfl
set_option maxHeartbeats 2000000 in
theorem rtext_any (r : List Int) (hr : RootOk r) (w : World) : Calls Try.prog 18 #[.agg (rootC r).toArray] w fun e w' => e = .returned (.string ⟨(Root.textV r).toArray⟩) ∧ Ext w w' := by
  obtain ⟨w0, hw0, x0, ra⟩ : ∃ w0, w.alloc (.cells (rootC r).toArray 23) = w0 ∧ Ext w w0 ∧ w0.rangeAt w.heap.size 0 (rootC r) := ⟨_, rfl, (by repeat (first | assumption | exact Ext.refl _ | refine Ext.alloc ?_ _ | refine Ext.drew ?_ | refine Ext.drewN ?_ _ | refine Ext.setCell ?_ (by first | (simp; done) | omega | (simp; omega)) _ | refine Ext.trans (by assumption) ?_)), range_new w (rootC r) _⟩
  have H := Lib.hid (fun W (k : Ext w0 W) (i : Nat) (hi : i < 32) => (by have := root_range hr (rangeAt_ext ra k) i hi; rwa [Nat.zero_add] at this : W.cell? ⟨w.heap.size, i, none⟩ = some (.int .u8 (nth r i))))
  have HB := Lib.hid (fun k => byte_range hr k)
  have HT := Lib.hid (fun (k : Nat) (hk : k < 32) => Root.text_take (r := r) (k := k) (by rw [hr.1]; exact hk))
  have HN := Lib.hid hr.1
  clear hr ra
  have hsz : Root.dgs.size = 16 := rfl
  go_enter Try.func18, Try.ntmps18
  go_wp2
  go_loopw [4, 5, 6, 7] (fun t i _ _ wr => ∃ k : Nat, k ≤ 32 ∧ i = .int .i64 k ∧ t = .string ⟨(Root.textV (r.take k)).toArray⟩ ∧ Ext w0 wr) (fun _ i _ _ _ => 32 - (intOf i).toNat)
  case atStart => exact ⟨0, by omega, rfl, rfl, Ext.refl _⟩
  case round =>
    obtain ⟨k, hk, rfl, rfl, hx⟩ := hrel
    by_cases hlt : k < 32
    · have h0 := HB.out k
      have hc := H.out wr hx k hlt
      have HTK := Lib.hid (HT.out k hlt)
      have HL := Lib.hid (show (Root.textV (r.take k)).length ≤ 62 by rw [Root.text_len, List.length_take]; omega)
      generalize nth r k = c at *
      generalize Root.textV (r.take k) = T at *
      have hn1 : 0 ≤ c / 16 ∧ c / 16 < 16 := by omega
      have hn2 : 0 ≤ c % 16 ∧ c % 16 < 16 := by omega
      have k1 := cat_dig (T := T) hn1.1 hn1.2
      have k2 := cat_dig (T := T ++ [Root.dg (c / 16).toNat]) hn2.1 hn2.2
      have z1 : (⟨T.toArray⟩ : ByteArray).size + (Root.dgs.extract (c / 16).toNat (c / 16 + 1).toNat).size ≤ 9223372036854775807 := by
        rw [size_mk, cut_size hn1.1 hn1.2]; have := HL.out; omega
      have z2 : (⟨(T ++ [Root.dg (c / 16).toNat]).toArray⟩ : ByteArray).size + (Root.dgs.extract (c % 16).toNat (c % 16 + 1).toNat).size ≤ 9223372036854775807 := by
        rw [size_mk, cut_size hn2.1 hn2.2]; have := HL.out; simp; omega
      have e2 : T ++ [Root.dg (c / 16).toNat] ++ [Root.dg (c % 16).toNat] = T ++ Root.two c := by
        have d1 : (c / 16).toNat = c.toNat / 16 := by omega
        have d2 : (c % 16).toNat = c.toNat % 16 := by omega
        rw [d1, d2, List.append_assoc]; rfl
      rw [e2, ← HTK.out] at k2
      clear e2 HTK HL
      generalize (⟨T.toArray⟩ : ByteArray) = S0 at *
      generalize (⟨(T ++ [Root.dg (c / 16).toNat]).toArray⟩ : ByteArray) = S1 at *
      have K1 := Lib.hid k1
      have K2 := Lib.hid k2
      have Z1 := Lib.hid z1
      have Z2 := Lib.hid z2
      clear k1 k2 z1 z2
      go_wp2
      refine wp_region_quiet_lit (by kernel_rfl) (by kernel_rfl) ?_
      repeat (first | go_big_quiet_skip | (go_big_quiet_want; first | ((first | (refine quiet_cat _ _ _ _ rfl S0 _ _ rfl rfl Z1.out K1.out ?_) | (refine quiet_cat _ _ _ _ rfl S1 _ _ rfl rfl Z2.out K2.out ?_)); (try simp only [Act.put, List.setIfInBounds_toArray, List.set_cons_zero, List.set_cons_succ]); go_big_quiet_on) | (go_big_quiet_op; first | go_big_quiet_on | go_big_quiet_call (fail))))
      refine wpQuiet_nil ?_
      intro _ hw'
      obtain ⟨nq', hw''⟩ := hw'
      subst hw''
      go_wp2
      go_roundw
      case rel => exact ⟨k + 1, by omega, by go_num, rfl, (by repeat (first | assumption | exact Ext.refl _ | refine Ext.alloc ?_ _ | refine Ext.drew ?_ | refine Ext.drewN ?_ _ | refine Ext.setCell ?_ (by first | (simp; done) | omega | (simp; omega)) _ | refine Ext.trans (by assumption) ?_))⟩
      case measure => simp [intOf]; omega
    · have e : k = 32 := by omega
      subst e
      have ht : r.take 32 = r := List.take_of_length_le (by rw [HN.out]; omega)
      rw [ht]
      go_wp2
      go_ret
      exact ⟨rfl, x0.trans hx⟩
end Go.Proofs.Ytamibbcdklpncaa
