/- Chapter 05 and 07: all tuples over columns; the two tests for a well-formed model are one. -/
import Derived.Test.YtnhamicdejjjnaaAeM3
import Derived.Test.YtnhamicdejjjnaaAeX
set_option linter.unusedSimpArgs false
set_option linter.unusedVariables false
namespace Go.Ab
open Go Go.Proofs
set_option maxRecDepth 20000
set_option maxHeartbeats 2000000
def colL (at' : List Int) (l : List Int) : List (Int × Nat) := l.map fun s => ((at'.take s.toNat).sum, (at'.getD s.toNat 0).toNat)
def fullR (at' : List Int) (l : List Int) : RelM := ((l.length : Int), rks at'.sum 0 (colL at' l))
theorem rngI_rks (n f : Int) (z : Nat) : rngI f z = rks n 0 [(f, z)] := by
  rw [rks_cons]
  induction z with
  | zero => rfl
  | succ z ih =>
    rw [rngI_succ, rksTo_succ, ih, rks_nil]
    congr 2
    omega
theorem insB_at {k : Nat} {l : List Int} (h : insB k l = true) : ∀ s ∈ l, 0 ≤ s ∧ s < k := by
  unfold insB at h
  rw [List.all_eq_true] at h
  intro s hs
  simpa using h s hs
theorem getD_at {at' : List Int} {k : Nat} (h : k < at'.length) : at'.getD k 0 = at'[k] := by rw [List.getD_eq_getElem?_getD, List.getElem?_eq_getElem h]; rfl
theorem full_fn (at' : List Int) (st : Int) (l : List Int) (hc : colsB at'.length l = true) (h : SmA at') (hsm : at'.sum ≤ 1000) : Fn Try.prog 74 [scp at' st, .pv (ints l)] (relA (fullR at' l)) := by
  unfold colsB at hc
  rw [Bool.and_eq_true, decide_eq_true_eq] at hc
  have hin := insB_at hc.2
  have hget : ∀ s : Int, s ∈ l → ∃ x : Nat, s = (x : Int) ∧ x < at'.length := fun s hs => ⟨s.toNat, by have := hin s hs; omega, by have := hin s hs; omega⟩
  unfold fullR
  match l, hc, hget with
  | [], hc, _ => simp at hc
  | [a], _, hget =>
    obtain ⟨x, rfl, hx⟩ := hget a (by simp)
    have := full1_fn at' st [(x : Int)] rfl x rfl hx h
    rw [rngI_rks at'.sum] at this
    simp only [colL, List.map_cons, List.map_nil, Int.toNat_natCast, getD_at hx]
    exact this
  | [a, b], _, hget =>
    obtain ⟨x, rfl, hx⟩ := hget a (by simp)
    obtain ⟨y, rfl, hy⟩ := hget b (by simp)
    have := full2_fn at' st [(x : Int), (y : Int)] rfl x y rfl rfl hx hy h hsm
    simp only [colL, List.map_cons, List.map_nil, Int.toNat_natCast, getD_at hx, getD_at hy]
    exact this
  | [a, b, c], _, hget =>
    obtain ⟨x, rfl, hx⟩ := hget a (by simp)
    obtain ⟨y, rfl, hy⟩ := hget b (by simp)
    obtain ⟨v, rfl, hv⟩ := hget c (by simp)
    have := full3_fn at' st [(x : Int), (y : Int), (v : Int)] rfl x y v rfl rfl rfl hx hy hv h hsm
    simp only [colL, List.map_cons, List.map_nil, Int.toNat_natCast, getD_at hx, getD_at hy, getD_at hv]
    exact this
  | a :: b :: c :: d :: r, hc, _ => simp at hc
theorem cellsB_iff {n : Int} {full : List Int → RelM} : ∀ {fs : List FieldM} {s s0 : List RelM} (h1 : s.length = fs.length) (h2 : s0.length = fs.length), cellsB n full fs s s0 = true ↔ ∀ j (h : j < fs.length), cellB n full fs[j] (s[j]'(by omega)) (s0[j]'(by omega)) = true
  | [], s, s0, _, _ => by
    constructor
    · intro _ j h; simp at h
    · intro _; unfold cellsB; rfl
  | f :: fs, [], _, h1, _ => by simp at h1
  | f :: fs, _ :: _, [], _, h2 => by simp at h2
  | f :: fs, r :: s, r0 :: s0, h1, h2 => by
    unfold cellsB
    rw [Bool.and_eq_true, cellsB_iff (by simpa using h1) (by simpa using h2)]
    constructor
    · rintro ⟨ha, hb⟩ j hj
      cases j with
      | zero => exact ha
      | succ j => exact hb j (by simpa using hj)
    · intro h
      exact ⟨h 0 (by simp), fun j hj => h (j + 1) (by simpa using hj)⟩
end Go.Ab
