/- Chapter 06: the law of the joins. -/
import Derived.Test.YtblllokpdpecbaaAlJ7
set_option linter.unusedSimpArgs false
set_option linter.unusedVariables false
namespace Go.Ab
open Go Go.Proofs
set_option maxRecDepth 100000
set_option maxHeartbeats 16000000
theorem Rl.le {m m' : Int} {a : List Int} (h : Rl m a) (hm : m ≤ m') : Rl m' a := ⟨h.inc, h.lo, fun t ht => by have := h.hi t ht; omega⟩
theorem rl_ok {n k : Nat} {a : List Int} (hn : n ≤ 5) (hk : 1 ≤ k ∧ k ≤ 3) (h : Rl ((n : Int) ^ k) a) : relOk n ((k : Int), a) = true := by
  unfold relOk
  rw [Bool.and_eq_true, decide_eq_true_eq]
  refine ⟨⟨by omega, by omega, by show (1 : Int) ≤ k; omega, by show (k : Int) ≤ 3; omega⟩, ?_⟩
  show incrB ((n : Int) ^ (k : Int).toNat) (-1) a = true
  rw [Int.toNat_natCast, incrB_at (Int.le_refl _)]
  intro j hj
  have h1 := h.lo _ (List.getElem_mem hj)
  have h2 := h.hi _ (List.getElem_mem hj)
  exact ⟨by omega, h1, h2, fun h0 => inc_at h.inc (by omega) hj⟩
theorem powS (n k : Nat) : (n : Int) ^ (k + 1) = (n : Int) ^ k * n := Int.pow_succ _ _
theorem pow1 (n : Nat) : (n : Int) ^ 1 = n := by rw [Int.pow_succ, Int.pow_zero, Int.one_mul]
theorem pow2 (n : Nat) : (n : Int) ^ 2 = n * n := by rw [Int.pow_succ, pow1]
attribute [local irreducible] AW AOps thenD inBlockD AR iterEnds roundEndsN inlEnds noGotoD canon joinL joinO closL overL prodL subL interL diffL fullN idenL transL
/-- a join of a q-ary relation, q = k + 1. -/
theorem cJ (n : Nat) (p q r : Int) (k : Nat) {a b : List Int} {m m' s : Int} (hn : 1 ≤ n ∧ n ≤ 5) (hs : (n : Int) ^ k = s) (hq : q - 1 = (k : Int)) (hk : k ≤ 2) (hr : p + q - 2 = r) (h1 : 1 ≤ r ∧ r ≤ 3) (ha : Rl m a) (hm : m ≤ 125) (hb : Rl m' b) (hm' : m' ≤ 125) :
    Fn Try.prog 22 [litI n, relA (p, a), relA (q, b)] (.tup [relA (r, joinL n s a b), litI 0]) := by
  have := join_fn n p q a b k hn hq hk (by omega) (ha.le hm) (hb.le hm')
  rwa [hr, hs] at this
end Go.Ab
