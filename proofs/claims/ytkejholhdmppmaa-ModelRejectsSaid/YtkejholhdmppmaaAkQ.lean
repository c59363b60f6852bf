/- Chapter 07's examples: what they come to. -/
import Derived.Test.YtkejholhdmppmaaAkP
set_option linter.unusedSimpArgs false
set_option linter.unusedVariables false
namespace Go.Ab
open Go Go.Proofs
set_option maxRecDepth 20000
set_option maxHeartbeats 2000000
def spH : SpecM := ⟨[(⟨#[65]⟩, false)], [⟨⟨#[102]⟩, [0], true⟩], ⟨none, 0, 0⟩, ⟨none, 0, 0⟩⟩
def stillH : SpecM := ⟨[(⟨#[65]⟩, false)], [⟨⟨#[102]⟩, [0], false⟩], ⟨none, 0, 0⟩, ⟨none, 0, 0⟩⟩
def fullH : List Int → RelM := fun _ => (1, rngI 0 3)
theorem fullH_fn (st : Int) : Fn Try.prog 24 [scp [3] st, .pv (ints [0])] (relA (fullH [0])) :=
  full1_fn [3] st [0] rfl 0 rfl (by decide) ⟨by decide, by decide⟩
theorem validH (s : SpecM) (hs : s.fields.length ≤ 1000) (hf : ∀ f ∈ s.fields, f.sorts = [0]) (lp : Int) (l : List Int) (b : Bool) (hb : validB fullH s (trcM lp l) = b) : Fn Try.prog 6 [spc s, mdl (trcM lp l)] (litB b) := by
  have := valid_fn fullH s (trcM lp l) hs (fun _ f hm _ => by
    rw [hf f hm]
    exact ⟨by decide, fullH_fn _⟩)
  rwa [hb] at this
theorem vH1 : Fn Try.prog 6 [spc spH, mdl (trcM 2 [0, 1, 0, 1])] (litB true) := validH _ (by decide) (by simp [spH]) _ _ _ (by decide +kernel)
theorem vH2 : Fn Try.prog 6 [spc spH, mdl (trcM 0 [0, 1])] (litB true) := validH _ (by decide) (by simp [spH]) _ _ _ (by decide +kernel)
theorem vH3 : Fn Try.prog 6 [spc spH, mdl (trcM 4 [0, 1, 0, 1])] (litB false) := validH _ (by decide) (by simp [spH]) _ _ _ (by decide +kernel)
theorem vH4 : Fn Try.prog 6 [spc spH, mdl (trcM 0 [3])] (litB false) := validH _ (by decide) (by simp [spH]) _ _ _ (by decide +kernel)
theorem vH5 : Fn Try.prog 6 [spc stillH, mdl (trcM 0 [0, 1])] (litB false) := validH _ (by decide) (by simp [stillH]) _ _ _ (by decide +kernel)
theorem vH6 : Fn Try.prog 6 [spc stillH, mdl (trcM 1 [2, 2])] (litB true) := validH _ (by decide) (by simp [stillH]) _ _ _ (by decide +kernel)
theorem lpH (lp : Int) (l : List Int) (h : 0 ≤ lp ∧ lp < l.length) : Lp (trcM lp l) := by
  refine ⟨h.1, by simpa [trcM] using h.2, ?_⟩
  intro s hs
  simp only [trcM, List.mem_map] at hs
  obtain ⟨x, _, rfl⟩ := hs
  exact ⟨by show 1 ≤ _; omega, by simp⟩
abbrev aH : ModM := trcM 2 [0, 1, 0, 1]
abbrev bH : ModM := trcM 0 [0, 1]
abbrev cH : ModM := trcM 1 [0, 1, 1]
theorem saH : Lp aH := lpH _ _ (by decide)
theorem sbH : Lp bH := lpH _ _ (by decide)
theorem scH : Lp cH := lpH _ _ (by decide)
theorem sameH1 : sameTr aH bH = true := sameTr_t ⟨rfl, fun t => tr_bound saH.lt sbH.lt (by decide +kernel) t⟩
theorem sameH2 : sameTr bH cH = false := sameTr_f fun h => absurd (h.2 2) (by decide +kernel)
theorem shortOf (m : ModM) (h : Lp m) (n l : Nat) (hl : l < n) (hn : n ≤ m.states.length) (ht : ∀ t, t < max l m.loop.toNat + ((m.states.take n).length - l) * (m.states.length - m.loop.toNat) → trN [] (m.states.take n) l t = trN [] m.states m.loop.toNat t)
    (hm : ∀ n', n' < n → ∀ l', l' < n' → ∃ t, stM m t ≠ stM m (idxN n' l' t)) : Short (stM m) n l := by
  refine ⟨(rep_pre h.lt hl hn).1 fun t => tr_bound (by rw [List.length_take]; omega) h.lt ht t, fun n' l' hr => ?_⟩
  by_cases hlt : n' < n
  · obtain ⟨t, ht'⟩ := hm n' hlt l' hr.1
    exact absurd (hr.2 t) ht'
  · omega
theorem shortA : Short (stM aH) 2 0 := shortOf aH saH 2 0 (by decide) (by decide) (by decide +kernel) (fun n' hn l' hl => by
  obtain rfl : n' = 1 := by omega
  obtain rfl : l' = 0 := by omega
  exact ⟨1, by decide +kernel⟩)
theorem shortC : Short (stM cH) 2 1 := shortOf cH scH 2 1 (by decide) (by decide) (by decide +kernel) (fun n' hn l' hl => by
  obtain rfl : n' = 1 := by omega
  obtain rfl : l' = 0 := by omega
  exact ⟨1, by decide +kernel⟩)
theorem tH1 : Fn Try.prog 13 [mdl aH, mdl bH] (litB true) := sameH1 ▸ sameTrace_fn aH bH saH sbH (by decide) (by decide)
theorem tH2 : Fn Try.prog 13 [mdl bH, mdl cH] (litB false) := sameH2 ▸ sameTrace_fn bH cH sbH scH (by decide) (by decide)
theorem hH1 : Fn Try.prog 15 [mdl aH] (mdl bH) := shorten_fn aH saH (by decide) (by decide) 2 0 shortA
theorem hH2 : Fn Try.prog 15 [mdl cH] (mdl (trcM 1 [0, 1])) := shorten_fn cH scH (by decide) (by decide) 2 1 shortC
theorem eqH1 : Fn Try.prog 14 [mdl aH, mdl bH] (litB false) := mEqual_fn aH bH
theorem eqH2 : Fn Try.prog 14 [mdl bH, mdl bH] (litB true) := mEqual_fn bH bH
theorem eqH3 : Fn Try.prog 14 [mdl (trcM 1 [0, 1]), mdl (trcM 1 [0, 1])] (litB true) := mEqual_fn (trcM 1 [0, 1]) (trcM 1 [0, 1])
theorem nH1 : Fn Try.prog 16 [mdl aH, litI 3] (litI 2) := next_fn aH 3
theorem nH2 : Fn Try.prog 16 [mdl aH, litI 0] (litI 1) := next_fn aH 0
theorem aH1 : Fn Try.prog 18 [mdl aH, litI 7] (.pv (rels [(1, [1])])) := at_fn aH 7 saH (by decide)
theorem aH2 : Fn Try.prog 18 [mdl aH, litI (-1)] (.pv (rels [])) := at_fn aH (-1) saH (by decide)
theorem rH1 : Fn Try.prog 17 [.pv (rels [(1, [1])]), .pv (rels [(1, [1])])] (litB true) := rSame_fn [(1, [1])] [(1, [1])]
theorem rvH : Fn Try.prog 20 [litI 3, relA (1, [2])] (litB true) := relValid_fn 3 (1, [2])
theorem atH : Fn Try.prog 7 [scp [3] 4] (litI 3) := atoms_fn [3] 4 ⟨by decide, by decide⟩
end Go.Ab
