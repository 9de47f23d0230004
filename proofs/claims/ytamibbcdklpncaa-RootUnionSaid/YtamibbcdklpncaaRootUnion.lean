/- RootUnion: roots of two lists are in order as those of both in order, together. No conditions. -/
import Derived.Test.YtamibbcdklpncaaRootAwake
import Derived.Test.YtamibbcdklpncaaRootIns
namespace Go.Proofs.Ytamibbcdklpncaa
open Go.RowKit Go.WideShapes Go.ChangeShapes Go.Joins Go.Deep
set_option linter.unusedVariables false
set_option linter.unusedSimpArgs false
set_option linter.unusedSectionVars false


theorem flat_two (L K : List (List Int)) : (L.map rootC).flatten ++ (K.map rootC).flatten = ((L ++ K).map rootC).flatten := by simp
theorem ok_two {L K : List (List Int)} (h : ∀ x ∈ L, RootOk x) (g : ∀ x ∈ K, RootOk x) : ∀ x ∈ L ++ K, RootOk x := fun x hx => by
  rcases List.mem_append.1 hx with h1 | h1
  · exact h x h1
  · exact g x h1
set_option maxHeartbeats 4000000 in
theorem RootUnion_walk {w : World} (lA : Option Addr) (ln lc : Nat) (l : List (List Int)) (hl : RL w lA ln lc l) (kA : Option Addr) (kn kc : Nat) (k : List (List Int)) (hk : RL w kA kn kc k) :
    Calls Try.prog 7 #[.slice lA ln lc, .slice kA kn kc] w fun e' w' => e' = .returned (.bool true) ∧ Ext w w' := by
  have hlr := hl.row.room
  have hkr := hk.row.room
  have HL := Lib.hid (fun W (kx : Ext w W) => hl.ext kx)
  have HK := Lib.hid (fun W (kx : Ext w W) => hk.ext kx)
  have HLN := Lib.hid hl.len
  have HLO := Lib.hid hl.ok
  have HKO := Lib.hid hk.ok
  have HKN := Lib.hid hk.len
  clear hl hk
  by_cases h1 : 60 < ln
  · have g1 : decide ((60 : Int) < (ln : Int)) = true := by rw [decide_eq_true_iff]; omega
    go_enter Try.func7, Try.ntmps7
    go_wp2_with fail
    refine (awake_any _).mono ?_
    rintro e w1 ⟨rfl, x1⟩
    go_wp2
    go_ret
    exact ⟨rfl, x1⟩
  · by_cases h2 : 60 < kn
    · have g1 : decide ((60 : Int) < (ln : Int)) = false := by rw [decide_eq_false_iff_not]; omega
      have g2 : decide ((60 : Int) < (kn : Int)) = true := by rw [decide_eq_true_iff]; omega
      go_enter Try.func7, Try.ntmps7
      go_wp2_with fail
      refine (awake_any _).mono ?_
      rintro e w1 ⟨rfl, x1⟩
      go_wp2
      go_ret
      exact ⟨rfl, x1⟩
    · have g1 : decide ((60 : Int) < (ln : Int)) = false := by rw [decide_eq_false_iff_not]; omega
      have g2 : decide ((60 : Int) < (kn : Int)) = false := by rw [decide_eq_false_iff_not]; omega
      go_enter Try.func7, Try.ntmps7
      go_wp2_with fail
      refine (awake_any _).mono ?_
      rintro e w1 ⟨rfl, x1⟩
      have hz1 := x1.size
      have s1 := wide_src (by omega) (HL.out _ x1).row
      go_wp2_with (first | (at_builtin; refine wpList_app rowRoots rfl _ _ rfl w.heap.size (.slice none 0 0) 0 [] rfl (own_new _ _ _ _) lA ln lc _ rfl s1 (by omega) (by omega) ?_; intro v2 w2 own2 grow2 _; simp only [Nat.zero_add, List.nil_append] at own2; obtain ⟨A2, c2, rfl⟩ := own_form' own2; have x2 : Ext w w2 := x1.grown grow2 (fun j e => by simp [Value.ownBlock] at e); have hz2 := x2.size; have s2 := wide_src (by omega) (HK.out _ x2).row) | (at_builtin; refine wpList_app rowRoots rfl _ _ rfl w.heap.size (.slice A2 ln c2) ln _ rfl own2 kA kn kc _ rfl s2 (by omega) (by omega) ?_; intro v3 w3 own3 grow3 _; obtain ⟨A3, c3, rfl⟩ := own_form' own3))
      have x3 : Ext w w3 := x2.grown grow3 (fun j e => (own2.lt j e).1)
      rw [flat_two] at own3
      have R3 := own_RL own3 (by omega) (by rw [List.length_append, HLN.out, HKN.out]) (ok_two HLO.out HKO.out)
      refine (sort_any lA ln lc l w3 (HL.out w3 x3) (by omega)).mono ?_
      rintro e w4 ⟨⟨A4, n4, c4, rfl, h4⟩, x34⟩
      have x4 := x3.trans x34
      have hz4 := x4.size
      have hn4 : n4 ≤ 60 := by have := Root.sortV_len l; rw [h4.len, HLN.out] at this; omega
      have s4 := wide_src (by omega) h4.row
      have HN4 := Lib.hid h4.len
      go_wp2_with (at_builtin; refine wpList_app rowRoots rfl _ _ rfl w4.heap.size (.slice none 0 0) 0 [] rfl (own_new _ _ _ _) A4 n4 c4 _ rfl s4 (by omega) (Nat.le_refl _) ?_; intro v5 w5 own5 grow5 _; simp only [Nat.zero_add, List.nil_append] at own5; obtain ⟨A5, c5, rfl⟩ := own_form' own5)
      have x5 : Ext w w5 := x4.grown grow5 (fun j e => by simp [Value.ownBlock] at e)
      refine (sort_any kA kn kc k w5 (HK.out w5 x5) (by omega)).mono ?_
      rintro e w6 ⟨⟨A6, n6, c6, rfl, h6⟩, x56⟩
      have x6 := x5.trans x56
      have hz6 := x6.size
      have hn6 : n6 ≤ 60 := by have := Root.sortV_len k; rw [h6.len, HKN.out] at this; omega
      have s6 := wide_src (by omega) h6.row
      have HN6 := Lib.hid h6.len
      have own6 := own_ext own5 x56
      have x45 : Ext w4 w5 := (Ext.refl w4).grown grow5 (fun j e => by simp [Value.ownBlock] at e)
      have hz46 := (x45.trans x56).size
      have hz34 := x34.size
      have ne6 : (Value.slice A3 (ln + kn) c3).ownBlock = none ∨ (Value.slice A3 (ln + kn) c3).ownBlock ≠ (Value.slice A5 n4 c5).ownBlock := by
        rcases A3 with _ | a
        · exact Or.inl rfl
        · refine Or.inr fun e => ?_
          have q1 := (own3.lt a.block rfl).2
          have q2 := (own6.lt a.block (e ▸ rfl)).1
          omega
      have own36 := own_ext own3 (x34.trans (x45.trans x56))
      have NE := Lib.hid ne6
      clear R3 h4 h6 s4 own5 grow5 own3 grow3 s1 s2 own2 grow2 ne6
      go_wp2_with (at_builtin; refine wpList_app rowRoots rfl _ _ rfl w4.heap.size (.slice A5 n4 c5) n4 _ rfl own6 A6 n6 c6 _ rfl s6 (by omega) (by omega) ?_; intro v7 w7 own7 grow7 hat7; obtain ⟨A7, c7, rfl⟩ := own_form' own7)
      have x7 : Ext w w7 := x6.grown grow7 (fun j e => by have := (own6.lt j e).1; omega)
      rw [flat_two] at own7
      have R7 := own_RL own7 (by omega) (by rw [List.length_append, HN4.out, HN6.out]) (ok_two (Root.sortV_ok HLO.out) (Root.sortV_ok HKO.out))
      have R3 := own_RL (own36.kept grow7 NE.out) (by omega) (by rw [List.length_append, HLN.out, HKN.out]) (ok_two HLO.out HKO.out)
      refine (sort_any A3 (ln + kn) c3 (l ++ k) w7 R3 (by omega)).mono ?_
      rintro e w8 ⟨⟨A8, n8, c8, rfl, h8⟩, x78⟩
      have R8 := R7.ext x78
      go_wp2_with fail
      refine (sort_any A7 (n4 + n6) c7 (Root.sortV l ++ Root.sortV k) w8 R8 (by omega)).mono ?_
      rintro e w9 ⟨⟨A9, n9, c9, rfl, h9⟩, x89⟩
      rw [Root.sortV_union] at h9
      have h89 := h8.ext x89
      go_wp2_with fail
      refine (same_self (Root.sortV (l ++ k)) A8 n8 c8 A9 n9 c9 w9 h89 h9).mono ?_
      rintro e w10 ⟨rfl, x910⟩
      go_wp2
      go_ret
      exact ⟨rfl, x7.trans (x78.trans (x89.trans x910))⟩
set_option maxRecDepth 100000 in
theorem RootUnion_lifted (os : Os) (started : os.Started) (H : Type) (enc : TypeId × Value → H) :
    ReturnsInHanded {} Try.checked os 7 .any (Rows.rootUnionSpec.pre6 enc Try.prog Try.f7 Rows.rootUnionRow.domain false) (Rows.rootUnionSpec.post enc Try.prog Try.f7 false true false false) := by
  refine returnsInHanded_of_change_sized (C := Try.checked) own started (by kernel_rfl) Try.func7
    (ChangeSpec.witness6 (enc := enc) (C := Try.checked) false ⟨#[], #[.slice none 0 0, .slice none 0 0], []⟩ 8 (by kernel_rfl) (by kernel_rfl) (by kernel_rfl) (by kernel_rfl)) ?_
  intro W base args ds gs before hval0 hW _hcnd hsz0 _
  have hval : ∀ (j : Nat) t v, Try.f7.params[j]? = some t → args[j]? = some v → Value.okWide Try.prog W .any base t v := hval0
  have hsz : (DataW.weightsEach Try.prog (Try.f7.params.toList ++ Rows.rootUnionSpec.plain.varTypes Try.prog) (ds ++ gs)).all (· ≤ reachBytes) = true := hsz0
  have hW' := hW
  obtain ⟨p, q, hA0, hV, rfl, hfz, hnd⟩ := hW
  have hA : DataW.TrodAll enc Try.prog W 0 (fun _ => true) true Try.f7.params.toList args.toList ds p := hA0
  rw [Try.params7] at hA hval hsz
  obtain ⟨v0, vs0, d0, ds0, p0, q0, hargs, rfl, rfl, h0, r0⟩ := trodAll_cons hA
  obtain ⟨v1, vs1, d1, ds1, p1, q1, rfl, rfl, rfl, h1, r1⟩ := trodAll_cons r0
  obtain ⟨rfl, rfl, rfl⟩ := trodAll_nil r1
  obtain rfl : args = #[v0, v1] := by cases args; simp_all
  obtain ⟨rfl, rfl⟩ := trodVars_none hV
  have h0k := h0
  have h1k := h1
  have hlt0 : ∀ x ∈ p0, x.block < W.heap.size := fun x hx => by have := hW'.lt x (by simp [hx]); simpa using this
  have hlt1 : ∀ x ∈ p1, x.block < W.heap.size := fun x hx => by have := hW'.lt x (by simp [hx]); simpa using this
  obtain ⟨lA, ln, lc, l, rfl, hl⟩ := open_roots (hval 0 24 v0 rfl rfl) h0 hsz (j := 0) rfl rfl
  obtain ⟨kA, kn, kc, k, rfl, hk⟩ := open_roots (hval 1 24 v1 rfl rfl) h1 hsz (j := 1) rfl rfl
  clear hA0 hval0
  simp only [List.append_nil] at hW'
  refine (RootUnion_walk lA ln lc l hl kA kn kc k hk (w := W)).mono fun e W' ⟨he, hg⟩ => ?_
  subst he
  exact ⟨_, rfl, post_law (pa := p0 ++ (p1 ++ [])) (pv := []) hW' (fun _ _ _ => (trodAll_cons_mk (shut_bool Try.underlying4 _) trodAll_mk0))
    (trodAll_cons_mk (Below.trod laidOut (by kernel_rfl) (of_decide_eq_true (by kernel_rfl)) h0k hg.out hlt0) (trodAll_cons_mk (Below.trod laidOut (by kernel_rfl) (of_decide_eq_true (by kernel_rfl)) h1k hg.out hlt1) trodAll_mk0)) rfl (by simp) hg⟩
theorem RootUnion_holds : Rows.RootUnionSaid :=
  OpenClaim.holds_of_wide 7 Try.f7 rfl rfl rfl rfl rfl rfl rfl ⟨rfl, rfl, rfl, rfl, rfl⟩ rfl rfl rfl rfl rfl (by kernel_rfl) Try.func7 (by kernel_rfl)
    (of_decide_eq_true (by kernel_rfl)) (by unfold Func.isWrapper; first | (rw [if_pos (by decide +kernel)]; kernel_rfl) | (rw [if_neg (by decide +kernel)]; exact ⟨rfl, rfl⟩))
    (fun os started H enc _ => RootUnion_lifted os started H enc)
#print axioms RootUnion_holds
end Go.Proofs.Ytamibbcdklpncaa
