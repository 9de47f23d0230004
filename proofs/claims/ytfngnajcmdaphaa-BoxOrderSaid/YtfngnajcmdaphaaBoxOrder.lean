/- BoxOrder: notes that are posted, and then all taken, come out in order, by rising versions, each as it was posted; if one that could have come in did not, Lag is told; for every box and notes. -/
import Derived.Test.YtfngnajcmdaphaaBoxHold
import Derived.Deep.DeepCutAuto
namespace Go.Proofs.Ytfngnajcmdaphaa
open Go.RowKit Go.WideShapes Go.ChangeShapes Go.Joins Go.Deep
set_option linter.unusedVariables false
set_option linter.unusedSimpArgs false









namespace Box
def fitV (cl : Bool) (l : List Note) (x : Note) : Bool := !cl && (decide (l.length = 0) || decide ((nt l (l.length - 1)).ver < x.ver))
theorem post_fit {cap : Int} {l : List Note} {lag cl : Bool} {x : Note} (h : mayV cap l = true) : postD cap l lag cl x = if fitV cl l x = true then (if (l.length : Int) < cap then (true, l ++ [x], lag) else (false, l, true)) else (false, l, lag) := by
  rw [post_yes h]
  unfold postW fitV
  have hc := (may_iff.1 h).2.2.2
  cases cl with
  | true => simp
  | false =>
    by_cases h0 : l.length = 0
    · by_cases h2 : (l.length : Int) = cap
      · rw [if_neg (by simp [h0]), if_pos h2, if_pos (by simp [h0]), if_neg (by omega)]
      · rw [if_neg (by simp [h0]), if_neg h2, if_pos (by simp [h0]), if_pos (by omega)]
    · by_cases h1 : x.ver ≤ (nt l (l.length - 1)).ver
      · rw [if_pos (.inr ⟨by omega, h1⟩), if_neg (by simp [h0]; omega)]
      · rw [if_neg (by rintro (h | h); cases h; exact h1 h.2)]
        by_cases h2 : (l.length : Int) = cap
        · rw [if_pos h2, if_pos (by simp; omega), if_neg (by omega)]
        · rw [if_neg h2, if_pos (by simp; omega), if_pos (by omega)]
end Box
/-- The first loop's hold: what came in is what is wanted. -/
structure OrdRel (w1 : World) (X8 : Nat) (bk : Int) (bd : Bool) (q6 : Value) (lag : Bool) (wr : World) (L : List Note) (A' : Option Addr) (c' : Nat) : Prop where
  box : Box4 wr X8 bk A' L.length c' lag bd
  tl : TL wr A' L.length c' L
  own : wr.ownsRow w1.heap.size 33 66 q6 L.length (flatT L)
  ne : q6.ownBlock ≠ some X8
  ext : Ext w1 wr
  may : Box.mayV bk L = true
  ok : ∀ y ∈ L, y.Ok
/-- The second loop's hold: what is wanted, and what is there still. -/
structure Ord2 (w1 : World) (X8 m : Nat) (bk : Int) (lag bd : Bool) (L : List Note) (A6 : Option Addr) (c6 : Nat) (wr : World) (i : Nat) (A' : Option Addr) (c' : Nat) : Prop where
  box : Box4 wr X8 bk A' (m - i) c' lag bd
  tl : TL wr A' (m - i) c' (L.drop i)
  want : TL wr A6 m c6 L
  ext : Ext w1 wr

set_option maxRecDepth 8000 in
set_option maxHeartbeats 4000000 in
theorem BoxOrder_walk {w : World} (bA : Option Addr) (bn bc : Nat) (b : List Note) (bk : Int) (bg bd : Bool) (hb : TL w bA bn bc b) (k1 : -9223372036854775808 ≤ bk) (k2 : bk ≤ 9223372036854775807) (lA : Option Addr) (ln lc : Nat) (l : List Note) (hl : TL w lA ln lc l) :
    Calls Try.prog 3 #[.agg #[.int .i64 bk, .slice bA bn bc, .bool bg, .bool bd], .slice lA ln lc] w fun e' w' => e' = .returned (.bool true) ∧ Ext w w' := by
  have HAW := Lib.hid (fun W => awake_any W)
  have HM := Lib.hid (fun W (k : Ext w W) => bmay_any bA bn bc b bk bg bd W (hb.ext k))
  cases hm : Box.mayV bk b with
  | false =>
    rw [hm] at HM
    clear hm hb
    go_enter Try.func3, Try.ntmps3
    go_wp2_with fail
    refine (HAW.out _).mono ?_
    rintro e w0 ⟨rfl, hx0⟩
    have k0 : Ext w w0 := Ext.trans ((by repeat (first | assumption | exact Ext.refl _ | refine Ext.alloc ?_ _ | refine Ext.drew ?_ | refine Ext.drewN ?_ _ | refine Ext.setCell ?_ (by first | (simp; done) | omega | (simp; omega)) _ | refine Ext.trans (by assumption) ?_))) hx0
    obtain ⟨u0, u1, u2, u3, uf⟩ := (hx0).box4 (B := w.heap.size) (a := .int .i64 bk) (b := .slice bA bn bc) (c := .bool bg) (d := .bool bd) (by simp (maxDischargeDepth := 7) [go_sem]) (by simp (maxDischargeDepth := 7) [go_sem]) (by simp (maxDischargeDepth := 7) [go_sem]) (by simp (maxDischargeDepth := 7) [go_sem]) (fun o => by simp (maxDischargeDepth := 7) [go_sem])
    have ul := lt_of_cell u0
    go_wp2_with fail
    refine (HM.out _ k0).mono ?_
    rintro e w1 ⟨rfl, hx1⟩
    go_wp2
    go_ret
    exact ⟨rfl, k0.trans hx1⟩
  | true =>
    rw [hm] at HM
    by_cases h60 : 60 < ln
    · have g60 : (60 : Int) < ln := by omega
      clear hm hb
      go_enter Try.func3, Try.ntmps3
      go_wp2_with fail
      refine (HAW.out _).mono ?_
      rintro e w0 ⟨rfl, hx0⟩
      have k0 : Ext w w0 := Ext.trans ((by repeat (first | assumption | exact Ext.refl _ | refine Ext.alloc ?_ _ | refine Ext.drew ?_ | refine Ext.drewN ?_ _ | refine Ext.setCell ?_ (by first | (simp; done) | omega | (simp; omega)) _ | refine Ext.trans (by assumption) ?_))) hx0
      obtain ⟨u0, u1, u2, u3, uf⟩ := (hx0).box4 (B := w.heap.size) (a := .int .i64 bk) (b := .slice bA bn bc) (c := .bool bg) (d := .bool bd) (by simp (maxDischargeDepth := 7) [go_sem]) (by simp (maxDischargeDepth := 7) [go_sem]) (by simp (maxDischargeDepth := 7) [go_sem]) (by simp (maxDischargeDepth := 7) [go_sem]) (fun o => by simp (maxDischargeDepth := 7) [go_sem])
      have ul := lt_of_cell u0
      go_wp2_with fail
      refine (HM.out _ k0).mono ?_
      rintro e w1 ⟨rfl, hx1⟩
      go_wp2
      go_ret
      exact ⟨rfl, k0.trans hx1⟩
    have g60 : ¬ (60 : Int) < ln := by omega
    have hlen := hb.len
    have h8 := may_len hm
    have HB := Lib.hid (fun W (k : Ext w W) => hb.ext k)
    have HL := Lib.hid hl
    have HMAY := Lib.hid hm
    have HOKB := Lib.hid hb.ok
    have HSB := Lib.hid hb.src
    rw [hlen] at h8
    have HLN := Lib.hid hlen
    have hzn := zeroNote
    have hzs := zNote_size
    have hze := zNote_ne
    clear hm hlen hb hl
    go_enter Try.func3, Try.ntmps3
    go_wp2_with fail
    refine (HAW.out _).mono ?_
    rintro e w0 ⟨rfl, hx0⟩
    have k0 : Ext w w0 := Ext.trans ((by repeat (first | assumption | exact Ext.refl _ | refine Ext.alloc ?_ _ | refine Ext.drew ?_ | refine Ext.drewN ?_ _ | refine Ext.setCell ?_ (by first | (simp; done) | omega | (simp; omega)) _ | refine Ext.trans (by assumption) ?_))) hx0
    obtain ⟨u0, u1, u2, u3, uf⟩ := (hx0).box4 (B := w.heap.size) (a := .int .i64 bk) (b := .slice bA bn bc) (c := .bool bg) (d := .bool bd) (by simp (maxDischargeDepth := 7) [go_sem]) (by simp (maxDischargeDepth := 7) [go_sem]) (by simp (maxDischargeDepth := 7) [go_sem]) (by simp (maxDischargeDepth := 7) [go_sem]) (fun o => by simp (maxDischargeDepth := 7) [go_sem])
    have ul := lt_of_cell u0
    go_wp2_with fail
    refine (HM.out _ k0).mono ?_
    rintro e w1 ⟨rfl, hx1⟩
    replace uf := (hx1).free u0 uf
    replace u0 := (hx1).cell u0
    replace u1 := (hx1).cell u1
    replace u2 := (hx1).cell u2
    replace u3 := (hx1).cell u3
    replace ul := lt_of_cell u0
    have kk1 := k0.trans hx1
    clear HM hx0 hx1 k0
    have hSrc := Lib.hid (HSB.out.ext kk1)
    have HU := Lib.hid (Box4.mk u0 u1 u2 u3 uf)
    have hX0 : w.heap.size < w1.heap.size := ul
    go_upto_region 5 with (at_builtin; refine wpList_app rowNotes rfl _ _ rfl w1.heap.size _ 0 [] rfl (World.ownsRow_nil _ _ _ _) bA bn bc (flatT b) rfl hSrc.out (by omega) (Nat.le_refl _) ?_; intro q2 w2 hown2 hgrow2 hat2; have k2' := (Ext.refl w1).grown hgrow2 (fun k hk => by cases hk))
    replace uf := (k2').free u0 uf
    replace u0 := (k2').cell u0
    replace u1 := (k2').cell u1
    replace u2 := (k2').cell u2
    replace u3 := (k2').cell u3
    replace ul := lt_of_cell u0
    rw [Nat.zero_add, List.nil_append] at hown2
    clear hSrc hgrow2 hat2 HSB
    go_wp2
    have hstart : ∃ A c, OrdRel w1 w2.heap.size bk bd q2 bg (w2.alloc (.cells #[.int .i64 bk, .slice bA bn bc, .bool bg, .bool bd] 24)) b A c :=
      ⟨bA, bc, ⟨by rw [HLN.out]; exact ⟨by simp, by simp, by simp, by simp, fun o => frozen_new _ _ _ _⟩, by rw [HLN.out]; exact HB.out _ (kk1.trans (k2'.alloc _)), by rw [HLN.out]; exact own_ext hown2 ((Ext.refl _).alloc _), own_off hown2 (.inr (Nat.le_refl _)), k2'.alloc _, HMAY.out, HOKB.out⟩⟩
    have HST := Lib.hid hstart
    have hz12 := k2'.size
    clear hstart u0 u1 u2 u3 uf ul hown2 k2'
    obtain ⟨X8, hX8⟩ : ∃ X8, X8 = w2.heap.size := ⟨_, rfl⟩
    have hX08 : w.heap.size < X8 := by omega
    have hwX : w1.heap.size ≤ X8 := by omega
    rw [← hX8] at HST ⊢
    generalize hW0 : w2.alloc (.cells #[.int .i64 bk, .slice bA bn bc, .bool bg, .bool bd] 24) = W0 at HST ⊢
    clear hX8 hW0 hz12
    go_loopw [6, 7, 9, 10] (fun q6 q7 i' _ wr => ∃ (i : Nat) (lag : Bool) (L : List Note) (A' : Option Addr) (c' : Nat), i ≤ ln ∧ i' = .int .i64 (i : Nat) ∧ q7 = .bool lag ∧ OrdRel w1 X8 bk bd q6 lag wr L A' c') (fun _ _ i' _ _ => ln - (intOf i').toNat)
    case atStart =>
      obtain ⟨A, c, h⟩ := HST.out
      exact ⟨0, bg, b, A, c, Nat.zero_le _, rfl, rfl, h⟩
    case round =>
      obtain ⟨i, lag, L, A', c', hi, rfl, rfl, R⟩ := hrel
      have kr := R.ext
      have hu := HU.out.ext kr
      have u0 := hu.c0
      have u1 := hu.c1
      have u2 := hu.c2
      have u3 := hu.c3
      have uf := hu.f
      have ul := lt_of_cell u0
      have hL8 := may_len R.may
      have HR := Lib.hid R
      obtain ⟨m, hm⟩ : ∃ m, L.length = m := ⟨_, rfl⟩
      clear R
      by_cases hlt : i < ln
      · have gi : (i : Int) < ln := by omega
        obtain ⟨bl, ol, rfl, rx, hxo⟩ := HL.out.at' hlt
        have HBL : Hid (bl ≠ X8) := by show _ ≠ _; have := lt_of_cell (rx 0 _ (Note.at0 _)); omega
        replace rx := rangeAt_ext rx (kk1.trans kr)
        obtain ⟨x, hx⟩ : ∃ x, l.getD i Note.zero = x := ⟨_, rfl⟩
        rw [hx] at rx hxo
        clear hx
        have hx66 : x.cells.length = 66 := Note.len hxo
        have hj66 : (Try.prog.info? 33).map (·.size) = some x.cells.length := by rw [hx66]; kernel_rfl
        have d0 := rx 0 _ (Note.at0 x)
        simp only [Nat.add_zero] at d0
        have hO := HR.out.own
        rw [hm] at hO hL8
        obtain ⟨A6, c6, e6, hT6, hf6⟩ := TL.own hO (by omega) hm HR.out.ok
        subst e6
        have HMM := Lib.hid hm
        clear hm hO
        obtain ⟨f, hf⟩ : ∃ f, Box.fitV bd L x = f := ⟨_, rfl⟩
        go_upto_region 10 with fail
        go_cut [10] from 38 to 100 (fun q wx => q = .bool f ∧ Ext wr wx)
        case first =>
          rename_i hJ hMet
          clear HL HST HR
          have HF := Lib.hid hf
          clear hf
          cases bd with
          | true =>
            obtain rfl : f = false := by rw [← HF.out]; rfl
            clear HF hT6 hf6
            refine wp_region_quiet_lit (by kernel_rfl) (by kernel_rfl) ?_
            repeat (first | go_big_quiet_skip | (go_big_quiet_want; first | ((fail); (try simp only [Act.put, List.setIfInBounds_toArray, List.set_cons_zero, List.set_cons_succ]); go_big_quiet_on) | (go_big_quiet_op; first | go_big_quiet_on | go_big_quiet_call (fail))))
            refine wpQuiet_nil ?_
            intro _ hw'
            obtain ⟨nq', hw''⟩ := hw'
            subst hw''
            refine hMet _ _ ?_
            go_meet
            exact ⟨rfl, (Ext.refl _).drewN _⟩
          | false =>
            cases m with
            | zero =>
              obtain rfl : f = true := by rw [← HF.out]; unfold Box.fitV; simp [HMM.out]
              clear HF hT6 hf6
              refine wp_region_quiet_lit (by kernel_rfl) (by kernel_rfl) ?_
              repeat (first | go_big_quiet_skip | (go_big_quiet_want; first | ((fail); (try simp only [Act.put, List.setIfInBounds_toArray, List.set_cons_zero, List.set_cons_succ]); go_big_quiet_on) | (go_big_quiet_op; first | go_big_quiet_on | go_big_quiet_call (fail))))
              refine wpQuiet_nil ?_
              intro _ hw'
              obtain ⟨nq', hw''⟩ := hw'
              subst hw''
              refine hMet _ _ ?_
              go_meet
              exact ⟨rfl, (Ext.refl _).drewN _⟩
            | succ k =>
              obtain ⟨ba, oa, rfl, ry, hyo⟩ := hT6.at' (show k < k + 1 by omega)
              have dy := ry 0 _ (Note.at0 _)
              simp only [Nat.add_zero] at dy
              have hf2 : decide ((Box.nt L k).ver < x.ver) = f := by rw [← HF.out]; unfold Box.fitV; rw [HMM.out]; simp
              change wr.cell? _ = some (.int .i64 (Box.nt L k).ver) at dy
              generalize Box.nt L k = y at *
              have hsub : ((k : Int) + 1) - 1 = (k : Int) := by omega
              have hwr : IntKind.i64.wrap (((k : Int) + 1) - 1) = (k : Int) := by rw [hsub]; exact IntWalk.i64_in _ ⟨by omega, by omega⟩
              have gk : (k : Int) < (k : Int) + 1 := by omega
              have g0 : ((k : Int) + 1 == 0) = false := by simp; omega
              have hL8' : k ≤ 7 := by omega
              clear HF hT6 hf6 ry hyo
              refine wp_region_quiet_lit (by kernel_rfl) (by kernel_rfl) ?_
              repeat (first | go_big_quiet_skip | (go_big_quiet_want; first | ((fail); (try simp only [Act.put, List.setIfInBounds_toArray, List.set_cons_zero, List.set_cons_succ]); go_big_quiet_on) | (go_big_quiet_op; first | go_big_quiet_on | go_big_quiet_call (fail))))
              refine wpQuiet_nil ?_
              intro _ hw'
              obtain ⟨nq', hw''⟩ := hw'
              subst hw''
              refine hMet _ _ ?_
              go_meet
              exact ⟨rfl, (Ext.refl _).drewN _⟩
        case rest =>
          obtain ⟨rfl, hxc⟩ := hcut
          have hok := HR.out.ok
          have hbox := HR.out.box.ext hxc
          have htl := HR.out.tl.ext hxc
          have hown := own_ext HR.out.own hxc
          rw [HMM.out] at hbox htl hown
          have kc := kr.trans hxc
          have hpf := Box.post_fit (lag := lag) (cl := bd) (x := x) HR.out.may
          rw [HMM.out, hf] at hpf
          have hPok : ∀ y ∈ L ++ [x], y.Ok := fun y hy => by
            rcases List.mem_append.1 hy with h | h
            · exact hok y h
            · rw [List.mem_singleton.1 h]; exact hxo
          have hne := HR.out.ne
          have hmay := HR.out.may
          have hpm := Box.postD_may (cap := bk) (l := L) (lag := lag) (cl := bd) (x := x)
          rw [hmay] at hpm
          replace rx := rangeAt_ext rx hxc
          replace uf := (hxc).free u0 uf
          replace u0 := (hxc).cell u0
          replace u1 := (hxc).cell u1
          replace u2 := (hxc).cell u2
          replace u3 := (hxc).cell u3
          replace ul := lt_of_cell u0
          clear hxc kr hT6 hf6 HST d0 hf
          generalize wc = W2 at *
          have HX := Lib.hid (And.intro hbox (And.intro htl (And.intro hown (And.intro hne (And.intro hok (And.intro hPok (And.intro kc rx)))))))
          have v0 := hbox.c0
          have v1 := hbox.c1
          have v2 := hbox.c2
          have v3 := hbox.c3
          have vf := hbox.f
          clear hbox htl hown hne hok hPok kc rx HR
          have hu33 := Try.underlying33
          have hL8' : m ≤ 8 := hL8
          clear hL8
          have hmay' := Lib.hid hmay
          cases f with
          | false =>
            rw [if_neg (by simp)] at hpf
            have HP := Lib.hid (fun W A c (h : TL W A m c L) => bpost_fresh A m c L bk lag bd x W h hxo _ _ _ hpf)
            rw [HMM.out] at HP
            have HMP := Lib.hid (fun W A c (h : TL W A m c L) => (by have k0 := bmay_any A m c L bk lag bd W h; rw [hmay] at k0; exact k0 : Calls Try.prog 10 #[.agg #[.int .i64 bk, .slice A m c, .bool lag, .bool bd]] W fun e w' => e = .returned (.bool true) ∧ Ext W w'))
            have HMY := Lib.hid hmay
            clear hpf hpm hmay
            go_upto_region 11 with fail
            refine wp_region_noPanic ?_
            refine wp_region_held_drew (S := fun w' => w'.rangeAt bl (ol + i * 66) x.cells) (by kernel_rfl) (rangeAt_ext HX.out.2.2.2.2.2.2.2 ((by repeat (first | assumption | exact Ext.refl _ | refine Ext.alloc ?_ _ | refine Ext.drew ?_ | refine Ext.drewN ?_ _ | refine Ext.setCell ?_ (by first | (simp; done) | omega | (simp; omega)) _ | refine Ext.trans (by assumption) ?_)))) (fun hHeld => ?_)
            change wpAnyH _ _ _ _ _ 7 (Array.replicate 7 false) _ _
            refine wpAnyH_take (i := 1) (v := Value.slice (some ⟨bl, ol, none⟩) ln lc) rfl (by kernel_rfl) (by kernel_rfl) (by kernel_rfl) (fun _ _ _ h => h) (Or.inl ⟨by rfl, fun _ hSw => by first | (go_simp; done) | (go_simp; with_reducible rfl)⟩) hHeld ?_
            (try simp only [List.getElem_toArray, List.getElem_cons_zero, List.getElem_cons_succ, Act.put, List.setIfInBounds_toArray, List.set_cons_zero, List.set_cons_succ])
            refine wpAnyH_take (i := 2) (v := Value.int .i64 i) rfl (by kernel_rfl) (by kernel_rfl) (by kernel_rfl) (fun _ _ _ h => h) (Or.inl ⟨by rfl, fun _ hSw => by first | (go_simp; done) | (go_simp; with_reducible rfl)⟩) hHeld ?_
            (try simp only [List.getElem_toArray, List.getElem_cons_zero, List.getElem_cons_succ, Act.put, List.setIfInBounds_toArray, List.set_cons_zero, List.set_cons_succ])
            refine wpAnyH_take (i := 3) (v := Value.pointer (some ⟨bl, ol + i * 66, none⟩)) rfl (by kernel_rfl) (by kernel_rfl) (by kernel_rfl) (fun _ _ _ h => h) (Or.inl ⟨by rfl, fun _ hSw => by first | (go_simp; done) | (go_simp; with_reducible rfl)⟩) hHeld ?_
            (try simp only [List.getElem_toArray, List.getElem_cons_zero, List.getElem_cons_succ, Act.put, List.setIfInBounds_toArray, List.set_cons_zero, List.set_cons_succ])
            refine wpAnyH_take (i := 4) (v := .agg (x.cells).toArray) rfl (by kernel_rfl) (by kernel_rfl) (by kernel_rfl) (fun _ _ _ h => h) (yieldsIf_load_mid (by rfl) 33 (.tmp 70) (by rfl) bl (ol + i * 66) (by go_simp) (x.cells) _ (fun w hw => hw) hu33 (by rfl) hj66) hHeld ?_
            (try simp only [List.getElem_toArray, List.getElem_cons_zero, List.getElem_cons_succ, Act.put, List.setIfInBounds_toArray, List.set_cons_zero, List.set_cons_succ])
            refine wpAnyH_ready (rs := [0]) (by kernel_rfl) (by simp) ?_
            refine AllReadyH.cons rfl (fun K hK => ?_) ?_
            · go_simp
              refine hK.out _ _ hHeld (fun hHeld => ?_)
              clear hK K
              (try simp only [List.getElem_toArray, List.getElem_cons_zero, List.getElem_cons_succ, Act.put, List.setIfInBounds_toArray, List.set_cons_zero, List.set_cons_succ])
              refine wpAnyH_ready (rs := [5]) (by kernel_rfl) (by simp) ?_
              refine AllReadyH.cons rfl (fun K hK => ?_) ?_
              · go_simp
                refine (HP.out _ _ _ (HX.out.2.1.ext ((Ext.refl _).drew))).mono ?_
                rintro e w3 ⟨⟨A3, c3, rfl, h3, hf3⟩, hx3⟩
                have hx3' : Ext W2 w3 := ((Ext.refl _).drew).trans hx3
                have hbx3 := HX.out.1.ext hx3'
                refine hK.out _ _ (rangeAt_ext HX.out.2.2.2.2.2.2.2 hx3') (fun hHeld => ?_)
                clear hK K
                (try simp only [List.getElem_toArray, List.getElem_cons_zero, List.getElem_cons_succ, Act.put, List.setIfInBounds_toArray, List.set_cons_zero, List.set_cons_succ])
                have x0 := hbx3.c0
                have x1 := hbx3.c1
                have x2 := hbx3.c2
                have x3 := hbx3.c3
                have xf := hbx3.f
                have hl3 := lt_of_cell x0
                have hX8w : X8 < W2.heap.size := lt_of_cell HX.out.1.c0
                have hne3 : ∀ ad, A3 = some ad → ad.block ≠ X8 := fun ad e => by have := hf3 ad e; simp at this; omega
                have hxb : bl ≠ X8 := HBL.out
                refine wpAnyH_ready (rs := [6]) (by kernel_rfl) (by simp) ?_
                refine AllReadyH.cons rfl (fun K hK => ?_) ?_
                · go_simp
                  refine hK.out _ _ (range_set4 hHeld hxb _ _ _ _) (fun hHeld => ?_)
                  clear hK K
                  (try simp only [List.getElem_toArray, List.getElem_cons_zero, List.getElem_cons_succ, Act.put, List.setIfInBounds_toArray, List.set_cons_zero, List.set_cons_succ])
                  refine wpAnyH_done (by kernel_rfl) ?_ _
                  refine NoPanic.normal ?_
                  have hq9 : ∀ ad, A3 = some ad → (Value.slice A6 m c6).ownBlock ≠ some ad.block := fun ad e => own_off HX.out.2.2.1 (.inr (by have := hf3 ad e; simpa using this))
                  have k9 := ext_set4 (HX.out.2.2.2.2.2.2.1.trans hx3') hwX (.int .i64 bk) (.slice A3 m c3) (.bool lag) (.bool bd)
                  have b9 : Box4 _ X8 bk A3 m c3 lag bd := hbx3.set
                  have t9 := h3.set4 hne3 (.int .i64 bk) (.slice A3 m c3) (.bool lag) (.bool bd)
                  have o9 := own_set4 (own_ext HX.out.2.2.1 hx3') HX.out.2.2.2.1 (.int .i64 bk) (.slice A3 m c3) (.bool lag) (.bool bd)
                  have r9 := range_set4 (rangeAt_ext HX.out.2.2.2.2.2.2.2 hx3') hxb (.int .i64 bk) (.slice A3 m c3) (.bool lag) (.bool bd)
                  generalize ((((w3.setCell ⟨X8, 0, none⟩ (.int .i64 bk)).setCell ⟨X8, 1, none⟩ (.slice A3 m c3)).setCell ⟨X8, 2, none⟩ (.bool lag)).setCell ⟨X8, 3, none⟩ (.bool bd)) = W9 at *
                  have hu9 := HU.out.ext k9
                  clear x0 x1 x2 x3 xf hbx3 h3 hf3 hne3 hHeld v0 v1 v2 v3 vf u0 u1 u2 u3 uf ul
                  have u0 := hu9.c0
                  have u1 := hu9.c1
                  have u2 := hu9.c2
                  have u3 := hu9.c3
                  have ul := lt_of_cell u0
                  have v0 := b9.c0
                  have v1 := b9.c1
                  have v2 := b9.c2
                  have v3 := b9.c3
                  have vf := b9.f
                  have H9 := Lib.hid (And.intro b9 (And.intro t9 (And.intro o9 (And.intro r9 (And.intro k9 hq9)))))
                  clear hu9 b9 t9 o9 r9 k9 hq9
                  cases lag with
                  | false =>
                    go_wp2_with fail
                    refine (HMP.out _ _ _ H9.out.2.1).mono ?_
                    rintro e w10 ⟨rfl, hx10⟩
                    have HFIN : Hid (OrdRel w1 X8 bk bd (.slice A6 m c6) false w10 L A3 c3) := by
                      refine ⟨?_, ?_, ?_, HX.out.2.2.2.1, H9.out.2.2.2.2.1.trans hx10, HMY.out, HX.out.2.2.2.2.1⟩
                      · rw [HMM.out]; exact H9.out.1.ext hx10
                      · rw [HMM.out]; exact H9.out.2.1.ext hx10
                      · rw [HMM.out]; exact own_ext H9.out.2.2.1 hx10
                    clear u0 u1 u2 u3 ul v0 v1 v2 v3 vf H9 HX HP HMP hx10
                    go_wp2
                    go_roundw
                    case rel => first | exact ⟨i + 1, false, L, A3, c3, by omega, by go_num, rfl, HFIN.out⟩ | (refine ⟨_, _, _, _, ⟨i + 1, false, L, A3, c3, by omega, ?_, rfl, HFIN.out⟩, rfl, rfl, rfl, rfl⟩; go_num)
                    case measure => simp [intOf]; omega
                  | true =>
                    go_wp2_with fail
                    refine (HMP.out _ _ _ H9.out.2.1).mono ?_
                    rintro e w10 ⟨rfl, hx10⟩
                    have HFIN : Hid (OrdRel w1 X8 bk bd (.slice A6 m c6) true w10 L A3 c3) := by
                      refine ⟨?_, ?_, ?_, HX.out.2.2.2.1, H9.out.2.2.2.2.1.trans hx10, HMY.out, HX.out.2.2.2.2.1⟩
                      · rw [HMM.out]; exact H9.out.1.ext hx10
                      · rw [HMM.out]; exact H9.out.2.1.ext hx10
                      · rw [HMM.out]; exact own_ext H9.out.2.2.1 hx10
                    clear u0 u1 u2 u3 ul v0 v1 v2 v3 vf H9 HX HP HMP hx10
                    go_wp2
                    go_roundw
                    case rel => first | exact ⟨i + 1, true, L, A3, c3, by omega, by go_num, rfl, HFIN.out⟩ | (refine ⟨_, _, _, _, ⟨i + 1, true, L, A3, c3, by omega, ?_, rfl, HFIN.out⟩, rfl, rfl, rfl, rfl⟩; go_num)
                    case measure => simp [intOf]; omega
                · exact AllReadyH.nil
              · exact AllReadyH.nil
            · exact AllReadyH.nil
          | true =>
            rw [if_pos rfl] at hpf
            by_cases hmc : (m : Int) < bk
            · rw [if_pos hmc] at hpf
              have HP := Lib.hid (fun W A c (h : TL W A m c L) => bpost_fresh A m c L bk lag bd x W h hxo _ _ _ hpf)
              rw [List.length_append, HMM.out, show [x].length = 1 from rfl] at HP
              rw [hpf] at hpm
              have HMY := Lib.hid hpm
              have HMP := Lib.hid (fun W A c (h : TL W A (m + 1) c (L ++ [x])) => (by have k0 := bmay_any A (m + 1) c (L ++ [x]) bk lag bd W h; rw [HMY.out] at k0; exact k0 : Calls Try.prog 10 #[.agg #[.int .i64 bk, .slice A (m + 1) c, .bool lag, .bool bd]] W fun e w' => e = .returned (.bool true) ∧ Ext W w'))
              clear hpf hpm hmay
              go_upto_region 11 with fail
              refine wp_region_noPanic ?_
              refine wp_region_held_drew (S := fun w' => w'.rangeAt bl (ol + i * 66) x.cells) (by kernel_rfl) (rangeAt_ext HX.out.2.2.2.2.2.2.2 ((by repeat (first | assumption | exact Ext.refl _ | refine Ext.alloc ?_ _ | refine Ext.drew ?_ | refine Ext.drewN ?_ _ | refine Ext.setCell ?_ (by first | (simp; done) | omega | (simp; omega)) _ | refine Ext.trans (by assumption) ?_)))) (fun hHeld => ?_)
              change wpAnyH _ _ _ _ _ 7 (Array.replicate 7 false) _ _
              refine wpAnyH_take (i := 1) (v := Value.slice (some ⟨bl, ol, none⟩) ln lc) rfl (by kernel_rfl) (by kernel_rfl) (by kernel_rfl) (fun _ _ _ h => h) (Or.inl ⟨by rfl, fun _ hSw => by first | (go_simp; done) | (go_simp; with_reducible rfl)⟩) hHeld ?_
              (try simp only [List.getElem_toArray, List.getElem_cons_zero, List.getElem_cons_succ, Act.put, List.setIfInBounds_toArray, List.set_cons_zero, List.set_cons_succ])
              refine wpAnyH_take (i := 2) (v := Value.int .i64 i) rfl (by kernel_rfl) (by kernel_rfl) (by kernel_rfl) (fun _ _ _ h => h) (Or.inl ⟨by rfl, fun _ hSw => by first | (go_simp; done) | (go_simp; with_reducible rfl)⟩) hHeld ?_
              (try simp only [List.getElem_toArray, List.getElem_cons_zero, List.getElem_cons_succ, Act.put, List.setIfInBounds_toArray, List.set_cons_zero, List.set_cons_succ])
              refine wpAnyH_take (i := 3) (v := Value.pointer (some ⟨bl, ol + i * 66, none⟩)) rfl (by kernel_rfl) (by kernel_rfl) (by kernel_rfl) (fun _ _ _ h => h) (Or.inl ⟨by rfl, fun _ hSw => by first | (go_simp; done) | (go_simp; with_reducible rfl)⟩) hHeld ?_
              (try simp only [List.getElem_toArray, List.getElem_cons_zero, List.getElem_cons_succ, Act.put, List.setIfInBounds_toArray, List.set_cons_zero, List.set_cons_succ])
              refine wpAnyH_take (i := 4) (v := .agg (x.cells).toArray) rfl (by kernel_rfl) (by kernel_rfl) (by kernel_rfl) (fun _ _ _ h => h) (yieldsIf_load_mid (by rfl) 33 (.tmp 70) (by rfl) bl (ol + i * 66) (by go_simp) (x.cells) _ (fun w hw => hw) hu33 (by rfl) hj66) hHeld ?_
              (try simp only [List.getElem_toArray, List.getElem_cons_zero, List.getElem_cons_succ, Act.put, List.setIfInBounds_toArray, List.set_cons_zero, List.set_cons_succ])
              refine wpAnyH_ready (rs := [0]) (by kernel_rfl) (by simp) ?_
              refine AllReadyH.cons rfl (fun K hK => ?_) ?_
              · go_simp
                refine hK.out _ _ hHeld (fun hHeld => ?_)
                clear hK K
                (try simp only [List.getElem_toArray, List.getElem_cons_zero, List.getElem_cons_succ, Act.put, List.setIfInBounds_toArray, List.set_cons_zero, List.set_cons_succ])
                refine wpAnyH_ready (rs := [5]) (by kernel_rfl) (by simp) ?_
                refine AllReadyH.cons rfl (fun K hK => ?_) ?_
                · go_simp
                  refine (HP.out _ _ _ (HX.out.2.1.ext ((Ext.refl _).drew))).mono ?_
                  rintro e w3 ⟨⟨A3, c3, rfl, h3, hf3⟩, hx3⟩
                  have hx3' : Ext W2 w3 := ((Ext.refl _).drew).trans hx3
                  have hbx3 := HX.out.1.ext hx3'
                  refine hK.out _ _ (rangeAt_ext HX.out.2.2.2.2.2.2.2 hx3') (fun hHeld => ?_)
                  clear hK K
                  (try simp only [List.getElem_toArray, List.getElem_cons_zero, List.getElem_cons_succ, Act.put, List.setIfInBounds_toArray, List.set_cons_zero, List.set_cons_succ])
                  have x0 := hbx3.c0
                  have x1 := hbx3.c1
                  have x2 := hbx3.c2
                  have x3 := hbx3.c3
                  have xf := hbx3.f
                  have hl3 := lt_of_cell x0
                  have hX8w : X8 < W2.heap.size := lt_of_cell HX.out.1.c0
                  have hne3 : ∀ ad, A3 = some ad → ad.block ≠ X8 := fun ad e => by have := hf3 ad e; simp at this; omega
                  have hxb : bl ≠ X8 := HBL.out
                  refine wpAnyH_ready (rs := [6]) (by kernel_rfl) (by simp) ?_
                  refine AllReadyH.cons rfl (fun K hK => ?_) ?_
                  · go_simp
                    refine hK.out _ _ (range_set4 hHeld hxb _ _ _ _) (fun hHeld => ?_)
                    clear hK K
                    (try simp only [List.getElem_toArray, List.getElem_cons_zero, List.getElem_cons_succ, Act.put, List.setIfInBounds_toArray, List.set_cons_zero, List.set_cons_succ])
                    refine wpAnyH_done (by kernel_rfl) ?_ _
                    refine NoPanic.normal ?_
                    have hq9 : ∀ ad, A3 = some ad → (Value.slice A6 m c6).ownBlock ≠ some ad.block := fun ad e => own_off HX.out.2.2.1 (.inr (by have := hf3 ad e; simpa using this))
                    have k9 := ext_set4 (HX.out.2.2.2.2.2.2.1.trans hx3') hwX (.int .i64 bk) (.slice A3 (m + 1) c3) (.bool lag) (.bool bd)
                    have b9 : Box4 _ X8 bk A3 (m + 1) c3 lag bd := hbx3.set
                    have t9 := h3.set4 hne3 (.int .i64 bk) (.slice A3 (m + 1) c3) (.bool lag) (.bool bd)
                    have o9 := own_set4 (own_ext HX.out.2.2.1 hx3') HX.out.2.2.2.1 (.int .i64 bk) (.slice A3 (m + 1) c3) (.bool lag) (.bool bd)
                    have r9 := range_set4 (rangeAt_ext HX.out.2.2.2.2.2.2.2 hx3') hxb (.int .i64 bk) (.slice A3 (m + 1) c3) (.bool lag) (.bool bd)
                    generalize ((((w3.setCell ⟨X8, 0, none⟩ (.int .i64 bk)).setCell ⟨X8, 1, none⟩ (.slice A3 (m + 1) c3)).setCell ⟨X8, 2, none⟩ (.bool lag)).setCell ⟨X8, 3, none⟩ (.bool bd)) = W9 at *
                    have hu9 := HU.out.ext k9
                    clear x0 x1 x2 x3 xf hbx3 h3 hf3 hne3 hHeld v0 v1 v2 v3 vf u0 u1 u2 u3 uf ul
                    have u0 := hu9.c0
                    have u1 := hu9.c1
                    have u2 := hu9.c2
                    have u3 := hu9.c3
                    have ul := lt_of_cell u0
                    have v0 := b9.c0
                    have v1 := b9.c1
                    have v2 := b9.c2
                    have v3 := b9.c3
                    have vf := b9.f
                    have H9 := Lib.hid (And.intro b9 (And.intro t9 (And.intro o9 (And.intro r9 (And.intro k9 hq9)))))
                    clear hu9 b9 t9 o9 r9 k9 hq9
                    have rx9 := H9.out.2.2.2.1
                    have hs9 : w1.heap.size ≤ (W9.alloc (.cells x.cells.toArray 33)).heap.size := by have := H9.out.2.2.2.2.1.size; simp; omega
                    have HSRC : Src (W9.alloc (.cells x.cells.toArray 33)) 66 (some ⟨W9.heap.size, 0, none⟩) 1 1 x.cells := src_atN (by rw [hx66]) (Note.one x) rfl
                    have hne9 : (Value.slice A6 m c6).ownBlock ≠ some X8 := HX.out.2.2.2.1
                    have hl9 := lt_of_cell v0
                    have HG := Lib.hid (And.intro hne9 hl9)
                    clear hne9 hl9
                    go_upto_region 15 with (first | (refine wpList_load_mid rfl 33 _ rfl _ _ rfl x.cells _ rx9 Try.underlying33 rfl hj66 ?_) | (refine wpList_build1 rfl _ rfl x.cells rfl hx66 W9.heap.size rfl ?_) | (at_builtin; refine wpList_app rowNotes rfl _ _ rfl w1.heap.size (.slice A6 m c6) m (flatT L) rfl (own_ext H9.out.2.2.1 ((Ext.refl _).alloc _)) (some ⟨W9.heap.size, 0, none⟩) 1 1 x.cells rfl HSRC (by omega) hs9 ?_; intro q5 w5 hown5 hgrow5 hat5))
                    have kA : Ext W9 (W9.alloc (.cells x.cells.toArray 33)) := (Ext.refl _).alloc _
                    have b5 := (H9.out.1.ext kA).grown hgrow5 HG.out.1
                    have t5 := (H9.out.2.1.ext kA).grown hgrow5 H9.out.2.2.2.2.2
                    have k5 := (H9.out.2.2.2.2.1.trans kA).grown hgrow5 (own_from H9.out.2.2.1)
                    have n5 : q5.ownBlock ≠ some X8 := by
                      rcases hat5 with h | h
                      · rw [h]; exact HG.out.1
                      · rw [h]; intro e5; have e6 := Option.some.inj e5; have := HG.out.2; simp at e6; omega
                    rw [← flatT_snoc] at hown5
                    have hok5 := HX.out.2.2.2.2.2.1
                    have hu5 := HU.out.ext k5
                    have H5 := Lib.hid (And.intro b5 (And.intro t5 (And.intro hown5 (And.intro n5 (And.intro k5 hok5)))))
                    clear u0 u1 u2 u3 ul v0 v1 v2 v3 vf H9 HX HG rx9 HSRC hs9 kA hat5 hgrow5 hHeld HP
                    have u0 := hu5.c0
                    have u1 := hu5.c1
                    have u2 := hu5.c2
                    have u3 := hu5.c3
                    have ul := lt_of_cell u0
                    have v0 := b5.c0
                    have v1 := b5.c1
                    have v2 := b5.c2
                    have v3 := b5.c3
                    have vf := b5.f
                    clear b5 t5 hown5 n5 k5 hok5 hu5
                    cases lag with
                    | false =>
                      go_wp2_with fail
                      refine (HMP.out _ _ _ H5.out.2.1).mono ?_
                      rintro e w10 ⟨rfl, hx10⟩
                      have HFIN : Hid (OrdRel w1 X8 bk bd q5 false w10 (L ++ [x]) A3 c3) := by
                        have hln : (L ++ [x]).length = m + 1 := by rw [List.length_append, HMM.out]; rfl
                        refine ⟨?_, ?_, ?_, H5.out.2.2.2.1, H5.out.2.2.2.2.1.trans hx10, HMY.out, H5.out.2.2.2.2.2⟩
                        · rw [hln]; exact H5.out.1.ext hx10
                        · rw [hln]; exact H5.out.2.1.ext hx10
                        · rw [hln]; exact own_ext H5.out.2.2.1 hx10
                      clear u0 u1 u2 u3 ul v0 v1 v2 v3 vf H5 HMP hx10
                      go_wp2
                      go_roundw
                      case rel => first | exact ⟨i + 1, false, L ++ [x], A3, c3, by omega, by go_num, rfl, HFIN.out⟩ | (refine ⟨_, _, _, _, ⟨i + 1, false, L ++ [x], A3, c3, by omega, ?_, rfl, HFIN.out⟩, rfl, rfl, rfl, rfl⟩; go_num)
                      case measure => simp [intOf]; omega
                    | true =>
                      go_wp2_with fail
                      refine (HMP.out _ _ _ H5.out.2.1).mono ?_
                      rintro e w10 ⟨rfl, hx10⟩
                      have HFIN : Hid (OrdRel w1 X8 bk bd q5 true w10 (L ++ [x]) A3 c3) := by
                        have hln : (L ++ [x]).length = m + 1 := by rw [List.length_append, HMM.out]; rfl
                        refine ⟨?_, ?_, ?_, H5.out.2.2.2.1, H5.out.2.2.2.2.1.trans hx10, HMY.out, H5.out.2.2.2.2.2⟩
                        · rw [hln]; exact H5.out.1.ext hx10
                        · rw [hln]; exact H5.out.2.1.ext hx10
                        · rw [hln]; exact own_ext H5.out.2.2.1 hx10
                      clear u0 u1 u2 u3 ul v0 v1 v2 v3 vf H5 HMP hx10
                      go_wp2
                      go_roundw
                      case rel => first | exact ⟨i + 1, true, L ++ [x], A3, c3, by omega, by go_num, rfl, HFIN.out⟩ | (refine ⟨_, _, _, _, ⟨i + 1, true, L ++ [x], A3, c3, by omega, ?_, rfl, HFIN.out⟩, rfl, rfl, rfl, rfl⟩; go_num)
                      case measure => simp [intOf]; omega
                  · exact AllReadyH.nil
                · exact AllReadyH.nil
              · exact AllReadyH.nil
            · rw [if_neg hmc] at hpf
              have HP := Lib.hid (fun W A c (h : TL W A m c L) => bpost_fresh A m c L bk lag bd x W h hxo _ _ _ hpf)
              rw [HMM.out] at HP
              have HMP := Lib.hid (fun W A c (h : TL W A m c L) => (by have k0 := bmay_any A m c L bk true bd W h; rw [hmay] at k0; exact k0 : Calls Try.prog 10 #[.agg #[.int .i64 bk, .slice A m c, .bool true, .bool bd]] W fun e w' => e = .returned (.bool true) ∧ Ext W w'))
              have HMY := Lib.hid hmay
              clear hpf hpm hmay
              go_upto_region 11 with fail
              refine wp_region_noPanic ?_
              refine wp_region_held_drew (S := fun w' => w'.rangeAt bl (ol + i * 66) x.cells) (by kernel_rfl) (rangeAt_ext HX.out.2.2.2.2.2.2.2 ((by repeat (first | assumption | exact Ext.refl _ | refine Ext.alloc ?_ _ | refine Ext.drew ?_ | refine Ext.drewN ?_ _ | refine Ext.setCell ?_ (by first | (simp; done) | omega | (simp; omega)) _ | refine Ext.trans (by assumption) ?_)))) (fun hHeld => ?_)
              change wpAnyH _ _ _ _ _ 7 (Array.replicate 7 false) _ _
              refine wpAnyH_take (i := 1) (v := Value.slice (some ⟨bl, ol, none⟩) ln lc) rfl (by kernel_rfl) (by kernel_rfl) (by kernel_rfl) (fun _ _ _ h => h) (Or.inl ⟨by rfl, fun _ hSw => by first | (go_simp; done) | (go_simp; with_reducible rfl)⟩) hHeld ?_
              (try simp only [List.getElem_toArray, List.getElem_cons_zero, List.getElem_cons_succ, Act.put, List.setIfInBounds_toArray, List.set_cons_zero, List.set_cons_succ])
              refine wpAnyH_take (i := 2) (v := Value.int .i64 i) rfl (by kernel_rfl) (by kernel_rfl) (by kernel_rfl) (fun _ _ _ h => h) (Or.inl ⟨by rfl, fun _ hSw => by first | (go_simp; done) | (go_simp; with_reducible rfl)⟩) hHeld ?_
              (try simp only [List.getElem_toArray, List.getElem_cons_zero, List.getElem_cons_succ, Act.put, List.setIfInBounds_toArray, List.set_cons_zero, List.set_cons_succ])
              refine wpAnyH_take (i := 3) (v := Value.pointer (some ⟨bl, ol + i * 66, none⟩)) rfl (by kernel_rfl) (by kernel_rfl) (by kernel_rfl) (fun _ _ _ h => h) (Or.inl ⟨by rfl, fun _ hSw => by first | (go_simp; done) | (go_simp; with_reducible rfl)⟩) hHeld ?_
              (try simp only [List.getElem_toArray, List.getElem_cons_zero, List.getElem_cons_succ, Act.put, List.setIfInBounds_toArray, List.set_cons_zero, List.set_cons_succ])
              refine wpAnyH_take (i := 4) (v := .agg (x.cells).toArray) rfl (by kernel_rfl) (by kernel_rfl) (by kernel_rfl) (fun _ _ _ h => h) (yieldsIf_load_mid (by rfl) 33 (.tmp 70) (by rfl) bl (ol + i * 66) (by go_simp) (x.cells) _ (fun w hw => hw) hu33 (by rfl) hj66) hHeld ?_
              (try simp only [List.getElem_toArray, List.getElem_cons_zero, List.getElem_cons_succ, Act.put, List.setIfInBounds_toArray, List.set_cons_zero, List.set_cons_succ])
              refine wpAnyH_ready (rs := [0]) (by kernel_rfl) (by simp) ?_
              refine AllReadyH.cons rfl (fun K hK => ?_) ?_
              · go_simp
                refine hK.out _ _ hHeld (fun hHeld => ?_)
                clear hK K
                (try simp only [List.getElem_toArray, List.getElem_cons_zero, List.getElem_cons_succ, Act.put, List.setIfInBounds_toArray, List.set_cons_zero, List.set_cons_succ])
                refine wpAnyH_ready (rs := [5]) (by kernel_rfl) (by simp) ?_
                refine AllReadyH.cons rfl (fun K hK => ?_) ?_
                · go_simp
                  refine (HP.out _ _ _ (HX.out.2.1.ext ((Ext.refl _).drew))).mono ?_
                  rintro e w3 ⟨⟨A3, c3, rfl, h3, hf3⟩, hx3⟩
                  have hx3' : Ext W2 w3 := ((Ext.refl _).drew).trans hx3
                  have hbx3 := HX.out.1.ext hx3'
                  refine hK.out _ _ (rangeAt_ext HX.out.2.2.2.2.2.2.2 hx3') (fun hHeld => ?_)
                  clear hK K
                  (try simp only [List.getElem_toArray, List.getElem_cons_zero, List.getElem_cons_succ, Act.put, List.setIfInBounds_toArray, List.set_cons_zero, List.set_cons_succ])
                  have x0 := hbx3.c0
                  have x1 := hbx3.c1
                  have x2 := hbx3.c2
                  have x3 := hbx3.c3
                  have xf := hbx3.f
                  have hl3 := lt_of_cell x0
                  have hX8w : X8 < W2.heap.size := lt_of_cell HX.out.1.c0
                  have hne3 : ∀ ad, A3 = some ad → ad.block ≠ X8 := fun ad e => by have := hf3 ad e; simp at this; omega
                  have hxb : bl ≠ X8 := HBL.out
                  refine wpAnyH_ready (rs := [6]) (by kernel_rfl) (by simp) ?_
                  refine AllReadyH.cons rfl (fun K hK => ?_) ?_
                  · go_simp
                    refine hK.out _ _ (range_set4 hHeld hxb _ _ _ _) (fun hHeld => ?_)
                    clear hK K
                    (try simp only [List.getElem_toArray, List.getElem_cons_zero, List.getElem_cons_succ, Act.put, List.setIfInBounds_toArray, List.set_cons_zero, List.set_cons_succ])
                    refine wpAnyH_done (by kernel_rfl) ?_ _
                    refine NoPanic.normal ?_
                    have hq9 : ∀ ad, A3 = some ad → (Value.slice A6 m c6).ownBlock ≠ some ad.block := fun ad e => own_off HX.out.2.2.1 (.inr (by have := hf3 ad e; simpa using this))
                    have k9 := ext_set4 (HX.out.2.2.2.2.2.2.1.trans hx3') hwX (.int .i64 bk) (.slice A3 m c3) (.bool true) (.bool bd)
                    have b9 : Box4 _ X8 bk A3 m c3 true bd := hbx3.set
                    have t9 := h3.set4 hne3 (.int .i64 bk) (.slice A3 m c3) (.bool true) (.bool bd)
                    have o9 := own_set4 (own_ext HX.out.2.2.1 hx3') HX.out.2.2.2.1 (.int .i64 bk) (.slice A3 m c3) (.bool true) (.bool bd)
                    have r9 := range_set4 (rangeAt_ext HX.out.2.2.2.2.2.2.2 hx3') hxb (.int .i64 bk) (.slice A3 m c3) (.bool true) (.bool bd)
                    generalize ((((w3.setCell ⟨X8, 0, none⟩ (.int .i64 bk)).setCell ⟨X8, 1, none⟩ (.slice A3 m c3)).setCell ⟨X8, 2, none⟩ (.bool true)).setCell ⟨X8, 3, none⟩ (.bool bd)) = W9 at *
                    have hu9 := HU.out.ext k9
                    clear x0 x1 x2 x3 xf hbx3 h3 hf3 hne3 hHeld v0 v1 v2 v3 vf u0 u1 u2 u3 uf ul
                    have u0 := hu9.c0
                    have u1 := hu9.c1
                    have u2 := hu9.c2
                    have u3 := hu9.c3
                    have ul := lt_of_cell u0
                    have v0 := b9.c0
                    have v1 := b9.c1
                    have v2 := b9.c2
                    have v3 := b9.c3
                    have vf := b9.f
                    have H9 := Lib.hid (And.intro b9 (And.intro t9 (And.intro o9 (And.intro r9 (And.intro k9 hq9)))))
                    clear hu9 b9 t9 o9 r9 k9 hq9
                    cases lag with
                    | false =>
                      go_wp2_with fail
                      refine (HMP.out _ _ _ H9.out.2.1).mono ?_
                      rintro e w10 ⟨rfl, hx10⟩
                      have HFIN : Hid (OrdRel w1 X8 bk bd (.slice A6 m c6) true w10 L A3 c3) := by
                        refine ⟨?_, ?_, ?_, HX.out.2.2.2.1, H9.out.2.2.2.2.1.trans hx10, HMY.out, HX.out.2.2.2.2.1⟩
                        · rw [HMM.out]; exact H9.out.1.ext hx10
                        · rw [HMM.out]; exact H9.out.2.1.ext hx10
                        · rw [HMM.out]; exact own_ext H9.out.2.2.1 hx10
                      clear u0 u1 u2 u3 ul v0 v1 v2 v3 vf H9 HX HP HMP hx10
                      go_wp2
                      go_roundw
                      case rel => first | exact ⟨i + 1, true, L, A3, c3, by omega, by go_num, rfl, HFIN.out⟩ | (refine ⟨_, _, _, _, ⟨i + 1, true, L, A3, c3, by omega, ?_, rfl, HFIN.out⟩, rfl, rfl, rfl, rfl⟩; go_num)
                      case measure => simp [intOf]; omega
                    | true =>
                      go_wp2_with fail
                      refine (HMP.out _ _ _ H9.out.2.1).mono ?_
                      rintro e w10 ⟨rfl, hx10⟩
                      have HFIN : Hid (OrdRel w1 X8 bk bd (.slice A6 m c6) true w10 L A3 c3) := by
                        refine ⟨?_, ?_, ?_, HX.out.2.2.2.1, H9.out.2.2.2.2.1.trans hx10, HMY.out, HX.out.2.2.2.2.1⟩
                        · rw [HMM.out]; exact H9.out.1.ext hx10
                        · rw [HMM.out]; exact H9.out.2.1.ext hx10
                        · rw [HMM.out]; exact own_ext H9.out.2.2.1 hx10
                      clear u0 u1 u2 u3 ul v0 v1 v2 v3 vf H9 HX HP HMP hx10
                      go_wp2
                      go_roundw
                      case rel => first | exact ⟨i + 1, true, L, A3, c3, by omega, by go_num, rfl, HFIN.out⟩ | (refine ⟨_, _, _, _, ⟨i + 1, true, L, A3, c3, by omega, ?_, rfl, HFIN.out⟩, rfl, rfl, rfl, rfl⟩; go_num)
                      case measure => simp [intOf]; omega
                  · exact AllReadyH.nil
                · exact AllReadyH.nil
              · exact AllReadyH.nil
      · obtain rfl : i = ln := by omega
        have hO := HR.out.own
        have hBX := HR.out.box
        have hT0 := HR.out.tl
        rw [hm] at hO hL8 hBX hT0
        obtain ⟨A6, c6, e6, hT6, hf6⟩ := TL.own hO (by omega) hm HR.out.ok
        subst e6
        have hWB := own_blk hO HR.out.ne
        have hmay := HR.out.may
        have hoks := HR.out.ok
        have HOKN := Lib.hid (fun i => hT6.okAt i)
        have HTK := Lib.hid (fun i (hi : i < m) W A c (h : TL W A (m - i) c (L.drop i)) => (by have k := btake_fresh A (m - i) c (L.drop i) bk lag bd W h _ _ _ (hT6.okAt i) (Box.take_drop hmay (by rw [hm]; exact hi)); rw [List.length_drop, hm] at k; exact k : Calls Try.prog 12 #[.agg #[.int .i64 bk, .slice A (m - i) c, .bool lag, .bool bd]] W fun e w' => (∃ A' c', e = .returned (.tuple #[.agg #[.int .i64 bk, .slice A' (m - (i + 1)) c', .bool lag, .bool bd], .agg (Box.nt L i).cells.toArray, .bool true]) ∧ TL w' A' (m - (i + 1)) c' (L.drop (i + 1)) ∧ ∀ ad, A' = some ad → W.heap.size ≤ ad.block) ∧ Ext W w'))
        have HTE := Lib.hid (fun W A c (h : TL W A 0 c []) => btake_fresh A 0 c [] bk lag bd W h _ _ _ Note.zero_ok (by rw [Box.take_yes (by have := Box.drop_may hmay L.length; rwa [List.drop_length] at this)]; rfl))
        have HST2 : Hid (Ord2 w1 X8 m bk lag bd L A6 c6 wr 0 A' c') := ⟨hBX, hT0, hT6, kr⟩
        have HWB := Lib.hid hWB
        have HMM := Lib.hid hm
        clear hO hBX hT0 hT6 hf6 hWB hmay hoks hm HR HST kr hu u0 u1 u2 u3 uf ul HL HMAY HOKB HLN HB
        go_wp2
        generalize wr = W0' at HST2 ⊢
        go_loopw [11, 12, 13, 14] (fun i' _ _ _ wr => ∃ (i : Nat) (A' : Option Addr) (c' : Nat), i ≤ m ∧ i' = .int .i64 (i : Nat) ∧ Ord2 w1 X8 m bk lag bd L A6 c6 wr i A' c') (fun i' _ _ _ _ => m - (intOf i').toNat)
        case atStart => exact ⟨0, _, _, Nat.zero_le _, rfl, HST2.out⟩
        case round =>
          obtain ⟨j, A', c', hj, rfl, R⟩ := hrel
          have kr := R.ext
          have v0 := R.box.c0
          have v1 := R.box.c1
          have v2 := R.box.c2
          have v3 := R.box.c3
          have vf := R.box.f
          have vl := lt_of_cell v0
          have hvl := vl
          have HTL := Lib.hid R.tl
          have HBX := Lib.hid R.box
          have HWT := Lib.hid R.want
          clear R
          by_cases hlt2 : j < m
          · have gj : (j : Int) < m := by omega
            have hxo := HOKN.out j
            have HT := HTK.out j hlt2
            obtain ⟨bw, ow, rfl, rw0, _⟩ := HWT.out.at' hlt2
            change World.rangeAt _ _ _ (Box.nt L j).cells at rw0
            change (Box.nt L j).Ok at hxo
            generalize Box.nt L j = x at *
            have HT := Lib.hid HT
            have hx66 : x.cells.length = 66 := Note.len hxo
            have hj66 : (Try.prog.info? 33).map (·.size) = some x.cells.length := by rw [hx66]; kernel_rfl
            have hq : ∀ W, (binOp .neq 33 (.agg x.cells.toArray) (.agg x.cells.toArray)).run Try.prog W = .ok (.bool false) W := fun W => Note.neq hxo hxo (b := true) (by simp) W
            obtain ⟨p, hp⟩ : ∃ p, m - j = p := ⟨_, rfl⟩
            obtain ⟨p', hp'⟩ : ∃ p', m - (j + 1) = p' := ⟨_, rfl⟩
            rw [hp] at HTL HBX HT v1
            rw [hp'] at HT
            have HPP := Lib.hid hp'
            clear hp hp'
            go_wp2_with fail
            refine (HT.out _ _ _ HTL.out).mono ?_
            rintro e w2 ⟨⟨A2, c2, rfl, h2, hf2⟩, hx2⟩
            replace vf := (hx2).free v0 vf
            replace v0 := (hx2).cell v0
            replace v1 := (hx2).cell v1
            replace v2 := (hx2).cell v2
            replace v3 := (hx2).cell v3
            replace vl := lt_of_cell v0
            have hz2 := hx2.size
            go_upto_region 21 with (refine wpList_store_mid rfl 33 _ _ rfl _ 0 x.cells.toArray rfl rfl (there_at (by simp) _ (by rw [List.size_toArray, hx66]; decide)) (by rw [List.size_toArray]; exact hj66) (all_oneCell_toArray (Note.one x)) ?_; rw [List.toList_toArray, setCells_at (by simp) (by rw [hx66]; rfl)])
            have rX : World.rangeAt (((w2.alloc (.cells #[.int .i64 bk, .slice A2 p' c2, .bool lag, .bool bd] 24)).alloc (.cells x.cells.toArray 33))) (w2.heap.size + 1) 0 x.cells := range_at (w := w2.alloc _) (B := w2.heap.size + 1) x.cells 33 (by simp)
            have kA : Ext w2 (((w2.alloc (.cells #[.int .i64 bk, .slice A2 p' c2, .bool lag, .bool bd] 24)).alloc (.cells x.cells.toArray 33))) := (by repeat (first | assumption | exact Ext.refl _ | refine Ext.alloc ?_ _ | refine Ext.drew ?_ | refine Ext.drewN ?_ _ | refine Ext.setCell ?_ (by first | (simp; done) | omega | (simp; omega)) _ | refine Ext.trans (by assumption) ?_))
            have rW := rangeAt_ext rw0 (hx2.trans kA)
            have bY : Box4 (((w2.alloc (.cells #[.int .i64 bk, .slice A2 p' c2, .bool lag, .bool bd] 24)).alloc (.cells x.cells.toArray 33))) w2.heap.size bk A2 p' c2 lag bd := Box4.ext (wr := w2.alloc (.cells #[.int .i64 bk, .slice A2 p' c2, .bool lag, .bool bd] 24)) ⟨by simp, by simp, by simp, by simp, fun o => frozen_new _ _ _ _⟩ ((Ext.refl _).alloc _)
            have bX := HBX.out.ext (hx2.trans kA)
            have tX := h2.ext kA
            have tW := HWT.out.ext (hx2.trans kA)
            have hX2 : ∀ ad, A2 = some ad → ad.block ≠ X8 := fun ad e => by have := hf2 ad e; omega
            have k8 : Ext w1 (((w2.alloc (.cells #[.int .i64 bk, .slice A2 p' c2, .bool lag, .bool bd] 24)).alloc (.cells x.cells.toArray 33))) := kr.trans (hx2.trans kA)
            clear h2 hf2 hx2 kA rw0 HTL HBX HWT HT kr v0 v1 v2 v3 vf vl hvl hz2
            generalize w2.heap.size + 1 = Y1 at *
            generalize w2.heap.size = Y0 at *
            generalize (((w2.alloc (.cells #[.int .i64 bk, .slice A2 p' c2, .bool lag, .bool bd] 24)).alloc (.cells x.cells.toArray 33))) = W8 at *
            refine wp_region_quiet_lit (by kernel_rfl) (by kernel_rfl) ?_
            repeat (first | go_big_quiet_skip | (go_big_quiet_want; first | ((first | (refine quiet_load_mid 33 _ rfl _ _ rfl x.cells _ (fun W ⟨nn, hn⟩ => hn ▸ rangeAt_ext rX ((Ext.refl _).drewN nn)) Try.underlying33 rfl hj66 ?_) | (refine quiet_load_mid 33 _ rfl _ _ rfl x.cells _ (fun W ⟨nn, hn⟩ => hn ▸ rangeAt_ext rW ((Ext.refl _).drewN nn)) Try.underlying33 rfl hj66 ?_)); (try simp only [Act.put, List.setIfInBounds_toArray, List.set_cons_zero, List.set_cons_succ]); go_big_quiet_on) | (go_big_quiet_op; first | go_big_quiet_on | go_big_quiet_call (fail))))
            refine wpQuiet_nil ?_
            intro _ hw'
            obtain ⟨nq', hw''⟩ := hw'
            subst hw''
            have kd : Ext W8 (W8.drewN nq') := (Ext.refl _).drewN _
            have bX' := bX.ext kd
            have bY' := bY.ext kd
            have HFIN : Hid (Ord2 w1 X8 m bk lag bd L (some ⟨bw, ow, none⟩) c6 (((((W8.drewN nq').setCell ⟨X8, 0, none⟩ (.int .i64 bk)).setCell ⟨X8, 1, none⟩ (.slice A2 p' c2)).setCell ⟨X8, 2, none⟩ (.bool lag)).setCell ⟨X8, 3, none⟩ (.bool bd)) (j + 1) A2 c2) := by
              refine ⟨?_, ?_, (tW.ext kd).set4 HWB.out _ _ _ _, ext_set4 (k8.trans kd) hwX _ _ _ _⟩
              · rw [HPP.out]; exact bX'.set
              · rw [HPP.out]; exact (tX.ext kd).set4 hX2 _ _ _ _
            clear rX rW bX bY tX tW k8 kd hX2
            have x0 := bX'.c0
            have x1 := bX'.c1
            have x2 := bX'.c2
            have x3 := bX'.c3
            have xf := bX'.f
            have y0 := bY'.c0
            have y1 := bY'.c1
            have y2 := bY'.c2
            have y3 := bY'.c3
            have xl := lt_of_cell x0
            clear bX' bY'
            generalize W8.drewN nq' = W9 at *
            go_wp2
            go_roundw
            case rel => first | exact ⟨j + 1, A2, c2, by omega, by go_num, HFIN.out⟩ | (refine ⟨_, _, _, _, ⟨j + 1, A2, c2, by omega, ?_, HFIN.out⟩, rfl, rfl, rfl, rfl⟩; go_num)
            case measure => simp [intOf]; omega
          · obtain rfl : j = m := by omega
            have h2 := HTL.out
            rw [Nat.sub_self, show L.drop j = [] by rw [← HMM.out, List.drop_length]] at h2
            rw [Nat.sub_self] at v1
            obtain ⟨x, ex⟩ : ∃ x, x = Note.zero := ⟨_, rfl⟩
            have hx66 : x.cells.length = 66 := by rw [ex]; exact Note.len Note.zero_ok
            have hj66 : (Try.prog.info? 33).map (·.size) = some x.cells.length := by rw [hx66]; kernel_rfl
            rw [← ex] at HTE
            clear ex HTL HBX HWT HTK HOKN HST2
            go_wp2_with fail
            refine (HTE.out _ _ _ h2).mono ?_
            rintro e w2 ⟨⟨A2, c2, rfl, h3, hf3⟩, hx2⟩
            go_wp2_with (refine wpList_store_mid rfl 33 _ _ rfl _ 0 x.cells.toArray rfl rfl (there_at (by simp) _ (by rw [List.size_toArray, hx66]; decide)) (by rw [List.size_toArray]; exact hj66) (all_oneCell_toArray (Note.one x)) ?_; rw [List.toList_toArray, setCells_at (by simp) (by rw [hx66]; rfl)])
            go_ret
            exact ⟨rfl, kk1.trans (kr.trans (hx2.trans ((by repeat (first | assumption | exact Ext.refl _ | refine Ext.alloc ?_ _ | refine Ext.drew ?_ | refine Ext.drewN ?_ _ | refine Ext.setCell ?_ (by first | (simp; done) | omega | (simp; omega)) _ | refine Ext.trans (by assumption) ?_)))))⟩
set_option maxRecDepth 100000 in
theorem BoxOrder_lifted (os : Os) (started : os.Started) (H : Type) (enc : TypeId × Value → H) :
    ReturnsInHanded {} Try.checked os 3 .any (Rows.boxOrderSpec.pre6 enc Try.prog Try.f3 Rows.boxOrderRow.domain false) (Rows.boxOrderSpec.post enc Try.prog Try.f3 false true false false) := by
  refine returnsInHanded_of_change_sized (C := Try.checked) own started (by kernel_rfl) Try.func3
    (ChangeSpec.witness6 (enc := enc) (C := Try.checked) false ⟨#[], #[.agg #[.int .i64 0, .slice none 0 0, .bool false, .bool false], .slice none 0 0], []⟩ 8 (by kernel_rfl) (by kernel_rfl) (by kernel_rfl) (by kernel_rfl)) ?_
  intro W base args ds gs before hval0 hW _hcnd hsz0 _
  have hval : ∀ (j : Nat) t v, Try.f3.params[j]? = some t → args[j]? = some v → Value.okWide Try.prog W .any base t v := hval0
  have hsz : (DataW.weightsEach Try.prog (Try.f3.params.toList ++ Rows.boxOrderSpec.plain.varTypes Try.prog) (ds ++ gs)).all (· ≤ reachBytes) = true := hsz0
  have hW' := hW
  obtain ⟨p, q, hA0, hV, rfl, hfz, hnd⟩ := hW
  have hA : DataW.TrodAll enc Try.prog W 0 (fun _ => true) true Try.f3.params.toList args.toList ds p := hA0
  rw [Try.params3] at hA hval hsz
  obtain ⟨v0, vs0, d0, ds0, p0, q0, hargs, rfl, rfl, h0, r0⟩ := trodAll_cons hA
  obtain ⟨v1, vs1, d1, ds1, p1, q1, rfl, rfl, rfl, h1, r1⟩ := trodAll_cons r0
  obtain ⟨rfl, rfl, rfl⟩ := trodAll_nil r1
  obtain rfl : args = #[v0, v1] := by cases args; simp_all
  obtain ⟨rfl, rfl⟩ := trodVars_none hV
  have h0k := h0
  have h1k := h1
  have hlt0 : ∀ x ∈ p0, x.block < W.heap.size := fun x hx => by have := hW'.lt x (by simp [hx]); simpa using this
  have hlt1 : ∀ x ∈ p1, x.block < W.heap.size := fun x hx => by have := hW'.lt x (by simp [hx]); simpa using this
  obtain ⟨bA, bn, bc, b, bk, bg, bd, rfl, hb, hkb1, hkb2⟩ := open_box (hval 0 24 v0 rfl rfl) h0 hsz (j := 0) rfl rfl
  obtain ⟨lA, ln, lc, l, rfl, hl⟩ := open_notes (hval 1 22 v1 rfl rfl) h1 hsz (j := 1) rfl rfl
  clear hA0 hval0
  simp only [List.append_nil] at hW'
  refine (BoxOrder_walk bA bn bc b bk bg bd hb hkb1 hkb2 lA ln lc l hl (w := W)).mono fun e W' ⟨he, hg⟩ => ?_
  subst he
  exact ⟨_, rfl, post_law (pa := p0 ++ (p1 ++ [])) (pv := []) hW' (fun _ _ _ => (trodAll_cons_mk (shut_bool Try.underlying4 _) trodAll_mk0))
    (trodAll_cons_mk (Below.trod laidOut (by kernel_rfl) (of_decide_eq_true (by kernel_rfl)) h0k hg.out hlt0) (trodAll_cons_mk (Below.trod laidOut (by kernel_rfl) (of_decide_eq_true (by kernel_rfl)) h1k hg.out hlt1) trodAll_mk0)) rfl (by simp) hg⟩
theorem BoxOrder_holds : Rows.BoxOrderSaid :=
  OpenClaim.holds_of_wide 3 Try.f3 rfl rfl rfl rfl rfl rfl rfl ⟨rfl, rfl, rfl, rfl, rfl⟩ rfl rfl rfl rfl rfl (by kernel_rfl) Try.func3 (by kernel_rfl)
    (of_decide_eq_true (by kernel_rfl)) (by unfold Func.isWrapper; first | (rw [if_pos (by decide +kernel)]; kernel_rfl) | (rw [if_neg (by decide +kernel)]; exact ⟨rfl, rfl⟩))
    (fun os started H enc _ => BoxOrder_lifted os started H enc)
#print axioms BoxOrder_holds
end Go.Proofs.Ytfngnajcmdaphaa
