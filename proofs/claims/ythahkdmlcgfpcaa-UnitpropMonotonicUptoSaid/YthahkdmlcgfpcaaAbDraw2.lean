/- Drawn regions: an operation under a guard that is known to hold, taken first. -/
import Derived.Test.YthahkdmlcgfpcaaAbEq
set_option linter.unusedSimpArgs false
set_option linter.unusedVariables false
namespace Go.Ab
open Go Go.RowKit
attribute [local irreducible] HS
variable {P : Program} {g : Ghost} {δ : DS} {l : List Oper} {late dn : List Nat} {k : Wt} {QD : Exit → DS → Prop}
theorem AR.freeG (i : Nat) {o o' : Oper} {v : AV} {gj d : Nat} {want : Bool} (hB : freeB l late dn i = true) (ho : l[i]? = some o) (hg : o.guard = some (gj, want)) (ho' : l[gj]? = some o') (hd' : o'.dst = some d) (hd0 : Nat.blt d HS = true) (hdn : Nat.blt d δ.n = true) (hb : δ.get d = litB want)
    (hd : okD δ.n o.dst = true) (hF : Frees P o δ v) (h : AR P g k late l QD (i :: dn) (δ.putd o.dst v)) : AR P g k late l QD dn δ := by
  intro hdc κ a w r
  simp only [freeB, Bool.and_eq_true, Bool.not_eq_true'] at hB
  obtain ⟨⟨⟨⟨⟨hs, hnd⟩, hr⟩, hf⟩, hla⟩, hl⟩ := hB
  have hl' : dn.length < l.length := by simpa using hl
  obtain ⟨n, hn⟩ : ∃ n, l.length - dn.length = n + 1 := ⟨l.length - dn.length - 1, by omega⟩
  obtain ⟨u, hu, hra⟩ := hF _ κ a w r
  have hr' : i ∈ Region.ready .any l.toArray (setL l.length dn) := by simpa using hr
  have ho'' : l.toArray[i]? = some o := by simpa using ho
  have hdc' : DC l.toArray (setL l.length (i :: dn)) := hdc.ready hr'
  have r2 : Rel (gOf g k late (setL l.length (i :: dn))) (δ.putd o.dst v) κ (a.put o.dst u) w := (gOf_step i r).putd (okD_spec hd) hra
  have h2 := h hdc' κ _ w r2
  have e1 : l.length - (i :: dn).length = n := by simp; omega
  rw [e1] at h2
  rw [hn]
  have hlt : d < HS := by simpa using hd0
  have hln : d < δ.n := by simpa using hdn
  have hv : a.tmps.getD d undef = .bool want := by
    have := r.env d
    rw [hb] at this
    unfold Ghost.val at this
    rw [if_pos hlt] at this
    exact this.lit
  have hv' : a.tmps[d]? = some (.bool want) := by
    rw [← r.n] at hln
    rw [Array.getD_eq_getD_getElem?, Array.getElem?_eq_getElem hln] at hv
    rw [Array.getElem?_eq_getElem hln]
    exact congrArg some hv
  have hyi : yielded l.toArray a.tmps gj = some want := by
    simp [yielded, ho', hd', hv']
  refine wpAnyL_first (C := fun _ => True) ho'' (Region.noSelect_spec hs) (fun j o hj => ?_) (fun c a w h => h.elim) (fun _ _ _ _ _ => trivial) (fun listed w => ?_) n _ a w hdc (Region.free_spec ho'' hf) hr' (.inl ⟨by simp [Region.wanted, hg, hyi], fun w' _ => hu w'⟩) (gOf_S r) h2
  · exact (List.all_eq_true.1 hnd) o (List.mem_of_getElem? (by simpa using hj))
  · unfold Sof; rw [lateIn_set hla]
end Go.Ab
