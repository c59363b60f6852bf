/- Chapter 09: models within meets; states. -/
import Derived.Test.YtjknobmbibighaaAhK18
import Derived.Test.YtjknobmbibighaaAbL2
set_option linter.unusedSimpArgs false
set_option linter.unusedVariables false
namespace Go.Ab
open Go Go.Proofs
open Nat (reduceAdd reduceSub)
set_option maxRecDepth 20000
set_option maxHeartbeats 16000000
theorem insL_mem {pk : Nat → Bool} {low : List Int} : ∀ {l : List Int} {n : Nat} {t : Int}, (t ∈ insL pk low n l → t ∈ l) ∧ (t ∈ l → t ∈ low → t ∈ insL pk low n l)
  | [], n, t => ⟨fun h => (by cases h), fun h => (by cases h)⟩
  | x :: l, n, t => by
    unfold insL
    have i1 := insL_mem (pk := pk) (low := low) (l := l) (n := n) (t := t)
    have i2 := insL_mem (pk := pk) (low := low) (l := l) (n := n + 1) (t := t)
    by_cases hx : x ∈ low
    · rw [if_pos hx]
      refine ⟨fun h => ?_, fun h hl => ?_⟩
      · rcases List.mem_cons.1 h with rfl | h
        · simp
        · exact List.mem_cons_of_mem _ (i1.1 h)
      · rcases List.mem_cons.1 h with rfl | h
        · simp
        · exact List.mem_cons_of_mem _ (i1.2 h hl)
    · rw [if_neg hx]
      refine ⟨fun h => ?_, fun h hl => ?_⟩
      · rcases List.mem_append.1 h with h | h
        · split at h
          · simp at h; subst h; simp
          · cases h
        · exact List.mem_cons_of_mem _ (i2.1 h)
      · rcases List.mem_cons.1 h with rfl | h
        · exact absurd hl hx
        · exact List.mem_append.2 (.inr (i2.2 h hl))
theorem insM_at {pk : Nat → Bool} : ∀ {bs : List BndM} {n k : Nat} (hk : k < bs.length), (insM pk n bs)[k]'(by rw [insM_len]; exact hk) = (bs[k].2.1, insL pk bs[k].1.2 (n + cntU (bs.take k)) bs[k].2.2)
  | [], _, _, hk => by simp at hk
  | x :: bs, n, 0, _ => rfl
  | x :: bs, n, k + 1, hk => by
    have := insM_at (pk := pk) (bs := bs) (n := n + (undL x).length) (k := k) (by simpa using hk)
    show (insM pk (n + (undL x).length) bs)[k]'_ = _
    rw [this]
    show (_, insL pk _ (n + (undL x).length + cntU (bs.take k)) _) = (_, insL pk _ (n + ((undL x).length + cntU (bs.take k))) _)
    rw [Nat.add_assoc]; rfl
theorem ins_in {at' : List Int} {fs : List FieldM} {a : List BndM} (h : Good at' fs a) (pk : Nat → Bool) (n : Nat) : pairsB wB a (insM pk n a) = true := by
  rw [pairsB_iff]
  refine ⟨by rw [insM_len], fun i hi => ?_⟩
  obtain ⟨r, _, _⟩ := h.get i (by rw [← h.len]; exact hi)
  rw [insM_at hi, wB_iff]
  exact ⟨⟨r.ar.symm, rfl⟩, fun t ht => insL_mem.2 (r.sub t ht) ht, fun t ht => insL_mem.1 ht⟩
theorem ins_ssm {s : SpecM} {at' : List Int} (hf : Fit s at') {a : List BndM} (h : Good at' s.fields a) (pk : Nat → Bool) : ∀ r ∈ insM pk 0 a, r.2.length ≤ 1000000 := by
  intro r hr
  obtain ⟨k, hk, rfl⟩ := List.getElem_of_mem hr
  have hk' : k < a.length := by rw [insM_len] at hk; exact hk
  rw [insM_at hk']
  have h1 := insL_len pk a[k].1.2 a[k].2.2 (0 + cntU (a.take k))
  have h2 := (good_lens hf h).2 _ (List.getElem_mem hk')
  show (insL pk a[k].1.2 (0 + cntU (a.take k)) a[k].2.2).length ≤ _
  omega
attribute [local irreducible] AW AOps thenD inBlockD AR iterEnds roundEndsN inlEnds noGotoD canon diffL interL subL relOk rks lowL highL bitU mixL defM madeL meetM meetL freeL insM contB
end Go.Ab
