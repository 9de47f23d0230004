/- The chapter's example of layer 2. -/
import Derived.Test.YtamibbcdklpncaaRootLaw
import Derived.Test.YtamibbcdklpncaaRootOf
import Derived.Test.YtamibbcdklpncaaRootSortRun
import Derived.Test.YtamibbcdklpncaaRootArms
namespace Go.Proofs.Ytamibbcdklpncaa
open Go.RowKit Go.WideShapes Go.ChangeShapes
set_option linter.unusedVariables false
set_option linter.unusedSimpArgs false


def r171 : List Int := 171 :: List.replicate 31 0
theorem r171_ok : RootOk r171 := by refine ⟨rfl, by decide⟩
theorem text171 : (Root.textV r171).length = 64 ∧ (Root.textV r171)[0]? = some 97 ∧ (Root.textV r171)[1]? = some 98 ∧ (Root.textV r171)[2]? = some 48 := by decide +kernel
theorem built171 : Try.prog.built 23 [(0, .int .u8 171)] = some (rootC r171).toArray := by kernel_rfl
theorem built0 : Try.prog.built 23 [] = some (rootC zeroR).toArray := by kernel_rfl
/-- A string's byte. -/
theorem str_index {S : List UInt8} {k : Nat} {b : UInt8} (h : S[k]? = some b) (h' : k < (⟨S.toArray⟩ : ByteArray).size) : ((⟨S.toArray⟩ : ByteArray)[k]'h').toNat = b.toNat := by
  obtain ⟨hk, hb⟩ := List.getElem?_eq_some_iff.1 h
  have e : (⟨S.toArray⟩ : ByteArray)[k]'h' = b := by
    show S.toArray[k]'(by simpa using hk) = b
    simpa using hb
  rw [e]
theorem two_RL {e : List Int} (ho : RootOk e) (w : World) : RL (w.alloc (.cells (rootC e ++ rootC e).toArray 23)) (some ⟨w.heap.size, 0, none⟩) 2 2 [e, e] := by
  have hr := range_new w (rootC e ++ rootC e) 23
  have hl := rootC_len ho
  refine ⟨⟨rfl, Nat.le_refl _, by omega, fun x hx => ?_, (fun h => by cases h), fun _ => ⟨_, _, rfl, fun i hi j u hu => ?_⟩⟩, fun x hx => by simp at hx; rw [hx]; exact ho, by omega⟩
  · have : x = rootC e := by simpa using hx
    rw [this]
    exact ⟨hl, root_one e⟩
  · have hj : (rootC e)[j]? = some u := by
      rcases i with _ | _ | i
      · simpa using hu
      · simpa using hu
      · omega
    have hjl : j < 32 := by
      have := (List.getElem?_eq_some_iff.1 hj).1
      omega
    have := hr (i * 32 + j) u (by
      rcases i with _ | _ | i
      · rw [Nat.zero_mul, Nat.zero_add, List.getElem?_append_left (by omega)]; exact hj
      · rw [List.getElem?_append_right (by omega), show (0 + 1) * 32 + j - (rootC e).length = j by omega]; exact hj
      · omega)
    simpa [Nat.add_assoc] using this

set_option maxHeartbeats 2000000 in
theorem awake_any (w : World) : Calls Try.prog 9 #[] w fun e w' => e = .returned (.bool true) ∧ Ext w w' := by
  obtain ⟨e1, he1⟩ : ∃ e1, e1 = r171 := ⟨_, rfl⟩
  obtain ⟨z, hz⟩ : ∃ z, z = zeroR := ⟨_, rfl⟩
  have ho : RootOk e1 := by rw [he1]; exact r171_ok
  have hzo : RootOk z := by rw [hz]; exact zeroR_ok
  have hb1 := built171
  have hb0 := built0
  obtain ⟨t0, t1, t2, t3⟩ := text171
  have hlt : Root.ltV z e1 = true := by rw [hz, he1]; decide
  rw [← he1] at hb1 t0 t1 t2 t3
  rw [← hz] at hb0
  have HL := Lib.hid (fun W => less_any z e1 hzo ho W)
  rw [hlt] at HL
  clear hlt he1 hz
  have HT := Lib.hid (fun W => text_any e1 ho W)
  have HO := Lib.hid (fun W => rof_any ⟨(Root.textV e1).toArray⟩ W)
  rw [show (⟨(Root.textV e1).toArray⟩ : ByteArray).data.toList = Root.textV e1 by simp, Root.of_text ho] at HO
  have hs : (⟨(Root.textV e1).toArray⟩ : ByteArray).size = 64 := by show (Root.textV e1).toArray.size = 64; simpa using t0
  have i1 := fun h => str_index t1 h
  have i2 := fun h => str_index t2 h
  have i3 := fun h => str_index t3 h
  simp only [] at HO
  simp only [UInt8.reduceToNat] at i1 i2 i3
  generalize (⟨(Root.textV e1).toArray⟩ : ByteArray) = S at *
  have hi1 : (Try.prog.info? 23).map (·.size) = some (rootC e1).length := by rw [rootC_len ho]; kernel_rfl
  have hq : ∀ W, (binOp .eql 23 (.agg (rootC e1).toArray) (.agg (rootC e1).toArray)).run Try.prog W = .ok (.bool true) W := fun W => root_eql ho ho (b := true) (by simp) W
  have HS := Lib.hid (fun A n c W (h : RL W A n c [e1, e1]) => sort_any A n c [e1, e1] W h (by have := h.len; simp at this; omega))
  rw [Root.sortV_two] at HS
  clear t0 t1 t2 t3
  go_enter Try.func9, Try.ntmps9
  go_wp2_with ((with_reducible refine at_build ?_); refine wpList_build_grd rfl _ _ rfl _ (by simp only [List.map_toArray, List.map_cons, List.map_nil, Act.eval]; exact hb1) ?_)
  refine (HT.out _).mono ?_
  rintro e w1 ⟨rfl, x1⟩
  go_wp2_with fail
  refine (HO.out _).mono ?_
  rintro e w2 ⟨rfl, x2⟩
  have r2 := range_at (w := w2) (B := w2.heap.size) (rootC e1) 23 rfl
  go_wp2_with (first | ((with_reducible refine at_store ?_); refine wpList_store_mid rfl 23 _ _ rfl _ 0 (rootC e1).toArray rfl rfl (there_at (by simp) _ (by rw [List.size_toArray, rootC_len ho]; decide)) (by rw [List.size_toArray]; exact hi1) (all_oneCell_toArray (root_one e1)) ?_; rw [List.toList_toArray, setCells_at (by simp) (by rw [rootC_len ho]; rfl)]) | ((with_reducible refine at_load ?_); refine wpList_load_grd rfl 23 _ rfl _ _ rfl (rootC e1) _ r2 Try.underlying23 rfl hi1 ?_) | ((with_reducible refine at_build ?_); refine wpList_build_grd rfl _ _ rfl _ (by simp only [List.map_toArray, List.map_cons, List.map_nil, Act.eval]; exact hb1) ?_) | ((with_reducible refine at_build ?_); refine wpList_build_grd rfl _ _ rfl _ (by simp only [List.map_toArray, List.map_cons, List.map_nil, Act.eval]; exact hb0) ?_))
  refine (HL.out _).mono ?_
  rintro e w3 ⟨rfl, x3⟩
  have r3 := rangeAt_ext r2 x3
  have y3 : Ext w w3 := x1.trans (x2.trans (((Ext.refl w2).alloc _).trans x3))
  clear r2
  have hR : RL (w3.alloc (.cells (rootC e1 ++ rootC e1).toArray 23)) (some ⟨w3.heap.size, 0, none⟩) 2 2 [e1, e1] := two_RL ho w3
  go_wp2_with (first | ((with_reducible refine at_load ?_); refine wpList_load_grd rfl 23 _ rfl _ _ rfl (rootC e1) _ r3 Try.underlying23 rfl hi1 ?_) | ((with_reducible refine at_slice ?_); refine wpList_buildR2 rfl _ _ rfl (rootC e1) (rootC e1) rfl rfl (rootC_len ho) (rootC_len ho) _ rfl ?_))
  refine (HS.out _ _ _ _ hR).mono ?_
  rintro e w4 ⟨⟨A4, n4, c4, rfl, h4⟩, x4⟩
  have hn4 : n4 = 1 := h4.len.symm
  subst hn4
  have y4 : Ext w w4 := (y3.alloc _).trans x4
  go_wp2
  go_ret
  exact ⟨rfl, y4⟩
end Go.Proofs.Ytamibbcdklpncaa
