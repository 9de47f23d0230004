/- root.Sort: slices.SortFunc over roots by the shelf's contract. -/
import Derived.Test.YtamibbcdklpncaaRootCmp
import Derived.Test.YtamibbcdklpncaaShelf
import Derived.Test.YtamibbcdklpncaaMapR
namespace Go.Proofs.Ytamibbcdklpncaa
open Go.RowKit Go.WideShapes Go.ChangeShapes Go.Sort
set_option linter.unusedVariables false
set_option linter.unusedSimpArgs false



/-- A root. -/
structure RS where
  r : List Int
  ok : RootOk r
instance : Inhabited RS := ⟨⟨zeroR, zeroR_ok⟩⟩
theorem RS.same : ∀ {x y : RS}, x.r = y.r → x = y
  | ⟨_, _⟩, ⟨_, _⟩, rfl => rfl
def encR (x : RS) : List Value := rootC x.r
def cfR (x y : RS) : Int := Root.cmpV x.r y.r
theorem encR_len (x : RS) : (encR x).length = 32 := rootC_len x.ok
theorem ltOf_R (x y : RS) : ltOf cfR x y = Root.ltV x.r y.r := rfl
theorem swoR : SWO (ltOf cfR) where
  irrefl x := by rw [ltOf_R]; exact Root.lt_irrefl _
  trans x y z h1 h2 := by rw [ltOf_R] at *; exact Root.lt_trans h1 h2
  ntrans x y z h1 h2 := by
    rw [ltOf_R] at *
    cases h : Root.ltV x.r z.r with
    | false => rfl
    | true =>
      cases g : Root.ltV z.r y.r with
      | false =>
        have e := Root.lt_total h2 g
        rw [e] at h1
        rw [h1] at h
        cases h
      | true => rw [Root.lt_trans h g] at h1; cases h1
theorem totR (x y : RS) (h : ltOf cfR x y = false) (g : ltOf cfR y x = false) : x = y := RS.same (Root.lt_total h g)
theorem cmpLaysR (blk off size : Nat) (w : World) : CmpLays Try.prog 22 #[] encR 32 cfR blk off size w :=
  fun _ _ _ _ x y => sortCmp_any x.r y.r x.ok y.ok _
theorem rsList : ∀ (R : List (List Int)), (∀ r ∈ R, RootOk r) → ∃ d : List RS, d.map RS.r = R
  | [], _ => ⟨[], rfl⟩
  | r :: R, h => by
    obtain ⟨d, hd⟩ := rsList R (fun x hx => h x (by simp [hx]))
    exact ⟨⟨r, h r (by simp)⟩ :: d, by rw [List.map_cons, hd]⟩
def sortL (R : List (List Int)) : List (List Int) := R.mergeSort fun x y => !Root.ltV y x
theorem sort_map (d : List RS) : (d.mergeSort fun x y => !(ltOf cfR) y x).map RS.r = sortL (d.map RS.r) := by
  unfold sortL
  rw [List.map_mergeSort]
  intro a _ b _
  rfl

theorem flat_at (R : List (List Int)) (hR : ∀ r ∈ R, RootOk r) (j : Nat) : (R.map rootC).flatten[j]? = ((R.map rootC).getD (j / 32) [])[j % 32]? :=
  flat_get (by omega) (fun x hx => by obtain ⟨r, hr, rfl⟩ := List.mem_map.1 hx; exact rootC_len (hR r hr)) j
theorem flatK_at (d : List RS) {i j : Nat} (hi : i < d.length) (hj : j < 32) : (flatK encR 32 d.toArray)[i * 32 + j]? = (rootC d[i].r)[j]? := by
  have hlt : i * 32 + j < d.length * 32 := by omega
  have e1 : (i * 32 + j) / 32 = i := by omega
  have e2 : (i * 32 + j) % 32 = j := by omega
  have hl : j < (rootC d[i].r).length := by rw [rootC_len d[i].ok]; exact hj
  unfold flatK encR
  simp [hlt, e1, e2, hi, hl]
theorem flatK_bang (d : List RS) {i j : Nat} {u : Value} (hi : i < d.length) (hu : (rootC d[i].r)[j]? = some u) : (flatK encR 32 d.toArray)[i * 32 + j]! = u := by
  have hj : j < 32 := by
    have := (List.getElem?_eq_some_iff.1 hu).1
    rwa [rootC_len d[i].ok] at this
  rw [getElem!_def, flatK_at d hi hj, hu]
theorem holds_own {w : World} {base g n c : Nat} {d : List RS} (h : w.ownsRow base 23 32 (.slice (some ⟨g, 0, none⟩) n c) n ((d.map RS.r).map rootC).flatten) : HoldsK encR 32 w g 0 d.toArray := by
  have hR : ∀ r ∈ d.map RS.r, RootOk r := fun r hr => by obtain ⟨x, _, rfl⟩ := List.mem_map.1 hr; exact x.ok
  intro t ht
  have ht' : t < d.length * 32 := by simpa using ht
  have hi : t / 32 < d.length := by omega
  have hj : t % 32 < (rootC d[t / 32].r).length := by rw [rootC_len d[t / 32].ok]; omega
  have hu : (rootC d[t / 32].r)[t % 32]? = some (rootC d[t / 32].r)[t % 32] := List.getElem?_eq_getElem hj
  have e : t = t / 32 * 32 + t % 32 := by omega
  constructor
  · have hc := h.cells (g := g) rfl t (rootC d[t / 32].r)[t % 32] (by rw [flat_at _ hR]; simp [List.getD, hi])
    rw [Addr.add_lit] at hc
    rw [hc]
    conv => rhs; rw [e]
    rw [flatK_bang d hi hu]
    rfl
  · rcases h.2 with ⟨e1, _⟩ | ⟨g', cap, cur, e1, hb, hh, hc, hm, hs, ht⟩
    · cases e1
    · obtain ⟨rfl, rfl⟩ : g = g' ∧ c = cap := by simpa using e1
      simp [World.frozen?, hh]
theorem below_sorted (w : World) (base g m : Nat) (d : Array RS) (os : Array Obj) (hb : base ≤ g) (hg : g < w.heap.size) : Below base w (sortWorldK encR 32 w g 0 m d os) := by
  refine ⟨rfl, rfl, rfl, ?_, fun k hk => ?_⟩
  · simp [sortWorldK, putRowK, putRow, mapBlock, grow, ahead]
  · have hlt : k < w.heap.size := by omega
    show (w.heap.modify g (onCells (putCells id 0 (flatK encR 32 d))) ++ os)[k]? = w.heap[k]?
    rw [Array.getElem?_append_left (by rw [Array.size_modify]; exact hlt), Array.getElem?_modify, if_neg (by omega)]
theorem row_sorted {w : World} {g c : Nat} {d : List RS} (hH : HoldsK encR 32 w g 0 d.toArray) (hc : d.length ≤ c) (hn : d.length ≤ 17592186043904) : WRow w 32 (some ⟨g, 0, none⟩) d.length c ((d.map RS.r).map rootC) := by
  refine ⟨by simp, hc, hn, fun x hx => ?_, (fun e => by cases e), fun _ => ⟨g, 0, rfl, fun i hi j u hu => ?_⟩⟩
  · obtain ⟨r, hr, rfl⟩ := List.mem_map.1 hx
    obtain ⟨y, _, rfl⟩ := List.mem_map.1 hr
    exact ⟨rootC_len y.ok, root_one y.r⟩
  · have hu' : (rootC d[i].r)[j]? = some u := by simpa [List.getD, hi] using hu
    have hj : j < 32 := by
      have := (List.getElem?_eq_some_iff.1 hu').1
      rwa [rootC_len d[i].ok] at this
    have := (hH (i * 32 + j) (by simp; omega)).1
    rw [flatK_bang d hi hu'] at this
    simpa [Nat.add_assoc] using this
set_option maxHeartbeats 1000000 in
theorem sortFunc_any (base g n c : Nat) (R : List (List Int)) (hR : ∀ r ∈ R, RootOk r) (w : World) (hb : base ≤ g) (hn : n ≤ 17592186043904) (hl : R.length = n)
    (h : w.ownsRow base 23 32 (.slice (some ⟨g, 0, none⟩) n c) n (R.map rootC).flatten) :
    Calls Try.prog 21 #[.slice (some ⟨g, 0, none⟩) n c, .func (.func 22) #[] #[]] w fun e w' => e = .returned (.tuple #[]) ∧ WRow w' 32 (some ⟨g, 0, none⟩) n c ((sortL R).map rootC) ∧ Below base w w' := by
  obtain ⟨d, rfl⟩ := rsList R hR
  have hd : d.length = n := by simpa using hl
  have hH := holds_own h
  have hg := (h.lt g rfl).2
  have hcap : n ≤ c := by
    rcases h.2 with ⟨e1, _⟩ | ⟨g', cap, cur, e1, hb, hh, hc, hm, hs, ht⟩
    · cases e1
    · obtain ⟨rfl, rfl⟩ : g = g' ∧ c = cap := by simpa using e1
      exact hc
  have eg : ∀ args w, (callFunc 22 args).run Try.prog w = .ok (.enter 22 args) w := enters_of Try.func22 (by kernel_rfl) rfl
  have hcon := AnyQ.slices_SortFunc_total Try.sortRoots 32 Try.isAgg23 Try.sizeOf23 encR encR_len (fun x v hv => root_one x.r v hv) cfR swoR 22 #[] g 0 c d.toArray w eg (cmpLaysR g 0 d.toArray.size w) hH hg (by simp; omega) totR
  change Calls Try.prog 21 _ _ _ at hcon
  have e : d.toArray.size = n := by simpa using hd
  rw [e] at hcon
  refine hcon.mono ?_
  rintro e w' ⟨he, m, os, rfl⟩
  refine ⟨he, ?_, below_sorted w base g m _ os hb hg⟩
  have hp : ((d.toArray.toList.mergeSort fun x y => !(ltOf cfR) y x)).length = d.length := by simp
  have hH2 := holdsK_sortWorldK_c encR 32 w g 0 d.toArray ((d.toArray.toList.mergeSort fun x y => !(ltOf cfR) y x)).toArray m os hH hg (by simp)
  have := row_sorted (c := c) hH2 (by rw [hp]; omega) (by rw [hp]; omega)
  rw [hp, hd] at this
  rw [← sort_map]
  exact this
end Go.Proofs.Ytamibbcdklpncaa
