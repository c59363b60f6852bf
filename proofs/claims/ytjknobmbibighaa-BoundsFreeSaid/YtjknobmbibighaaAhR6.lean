/- Chapter 06's reference: rising lists, searched and added to. -/
import Derived.Test.YtjknobmbibighaaAhU6
import Derived.Test.YtjknobmbibighaaAbL2
set_option linter.unusedSimpArgs false
set_option linter.unusedVariables false
namespace Go.Ab
open Go Go.Proofs
open Nat (reduceAdd reduceSub)
set_option maxRecDepth 20000
set_option maxHeartbeats 4000000
theorem inc_at {l : List Int} (h : Inc l) {i j : Nat} (hi : i < j) (hj : j < l.length) : l[i] < l[j] := List.pairwise_iff_getElem.1 h i j (by omega) hj hi
attribute [local irreducible] AW AOps thenD inBlockD AR iterEnds roundEndsN inlEnds noGotoD canon
theorem rHas_fn (c : Int) (l : List Int) (x : Int) (hl : l.length ≤ 1000000) (h : Inc l) : Fn Try.prog 60 [relA (c, l), litI x] (litB (decide (x ∈ l))) := by
  refine Fn.enter (n := 42) Try.func60 rfl rfl rfl rfl rfl (by decide) fun g hro_ hwt_ => ?_; (try (conv => rhs; simp only [Nf.all, Nat.reduceBEq, reduceAdd, reduceSub]))
  (refine zq ?_; refine AOps.box rfl rfl rfl rfl ?_; (conv => rhs; simp only [Nf.all, Nat.reduceBEq, reduceAdd, reduceSub]); refine za ?_; refine zd ?_; refine zq ?_; (conv => rhs; simp only [Nf.all, Nat.reduceBEq, reduceAdd, reduceSub]); refine za ?_; refine zd ?_; refine zq ?_; (conv => rhs; simp only [Nf.all, Nat.reduceBEq, reduceAdd, reduceSub]); refine AOps.fieldAddrN 40 1 1 rfl rfl rfl rfl ?_; refine zb ?_; refine zn ?_; refine za ?_; refine zd ?_; refine zo ?_; refine AW.block ?_)
  ((conv => rhs; simp only [Nf.all, Nat.reduceBEq, reduceAdd, reduceSub]); apply AW.loopR [4, 2, 1] [0] (fun s : Nat × Nat => ([(5, litI s.1), (6, litI s.2)] : List (Nat × AV))) (fun s : Nat × Nat => ([] : List (Nat × Option Ob))) (fun s : Nat × Nat => s.1 ≤ s.2 ∧ s.2 ≤ l.length ∧ (∀ j (h : j < l.length), j < s.1 → l[j] < x) ∧ (∀ j (h : j < l.length), s.2 ≤ j → x ≤ l[j])) (fun s : Nat × Nat => s.2 - s.1) ((0, l.length)); (conv => lhs; simp only [Nf.lpR, Nf.all, Nat.reduceBEq, reduceAdd, reduceSub]); (all_goals skip))
  · exact ⟨Nat.zero_le _, Nat.le_refl _, fun j h h2 => by omega, fun j h h2 => by simp at h2; omega⟩
  · exact weak rfl (by (refine ⟨.eq rfl rfl, ?_⟩; (iterate 4 refine ⟨.eq rfl rfl, ?_⟩); exact trivial)) (by (refine ⟨.box _ rfl ?_, ?_⟩; (iterate 2 refine ⟨.eq rfl rfl, ?_⟩); (iterate 2 exact trivial))) rfl
  rintro ⟨lo, hi⟩ ⟨h1, h2, h3, h4⟩
  simp only at h1 h2 h3 h4 ⊢
  by_cases hlt : lo < hi
  · have hm0 : 0 ≤ ((lo : Int) + hi) / 2 := by omega
    have hmn : (((lo : Int) + hi) / 2).toNat < l.length := by omega
    obtain ⟨m, hm⟩ : ∃ m : Nat, m = (((lo : Int) + hi) / 2).toNat := ⟨_, rfl⟩
    by_cases hq : l[(((lo : Int) + hi) / 2).toNat] < x
    · (refine zo ?_; refine zq ?_; (iterate 2 refine zm ?_); refine zs ?_; refine zd ?_; refine zc ?_; refine AW.skip ?_; refine thenD_n ?_; refine AW.block ?_; refine zq ?_; (conv => rhs; simp only [Nf.all, Nat.reduceBEq, reduceAdd, reduceSub]); (iterate 2 refine zm ?_); refine AOps.add rfl rfl rfl rfl rfl (by omega) ?_; refine AOps.quoE rfl rfl rfl rfl rfl (by omega) ?_; refine za ?_; refine zd ?_; refine zq ?_; (conv => rhs; simp only [Nf.all, Nat.reduceBEq, reduceAdd, reduceSub]); refine AOps.fieldAddrN 40 1 1 rfl rfl rfl rfl ?_; refine zb ?_; refine zm ?_; (focus ((with_reducible apply AOps.index_mapI); (iterate 7 exact rfl); omega; rotate_left; (first | omega | exact Nat.zero_lt_one | exact (by simp)))); refine zr ?_; refine zm ?_; refine zs ?_; refine zd ?_; refine AW.condY rfl rfl (by with_reducible assumption) ?_; refine AW.region ?_; (conv => rhs; simp only [Nf.all, Nat.reduceBEq, reduceAdd, reduceSub]); refine zm ?_; refine AOps.add rfl rfl rfl rfl rfl (by omega) ?_; refine za ?_; refine AOps.nil ?_; refine inBlockD_n ?_; refine thenD_n ?_)
      exact ⟨(m + 1, hi), ⟨by show m + 1 ≤ hi; omega, h2, fun j hj hjm => by
        show l[j] < x
        have hjm : j < m + 1 := hjm
        by_cases e : j = m
        · subst e; simp only [hm]; exact hq
        · have := inc_at h (i := j) (j := (((lo : Int) + hi) / 2).toNat) (by omega) hmn
          omega, h4⟩, by show hi - (m + 1) < hi - lo; omega, weak rfl (by (refine ⟨.intE (by first | with_reducible rfl | (first | rfl | (show (((lo : Int) + hi) / 2 + 1) = ((m + 1 : Nat) : Int); omega))), ?_⟩; refine ⟨.intE (by first | with_reducible rfl | (first | rfl | (show (((lo : Int) + hi) / 2 + 1) = ((m + 1 : Nat) : Int); omega))), ?_⟩; refine ⟨.boolE (by first | with_reducible rfl | (first | rfl | (show (((lo : Int) + hi) / 2 + 1) = ((m + 1 : Nat) : Int); omega))), ?_⟩; refine ⟨.eq rfl rfl, ?_⟩; refine ⟨.intE (by first | with_reducible rfl | (first | rfl | (show (((lo : Int) + hi) / 2 + 1) = ((m + 1 : Nat) : Int); omega))), ?_⟩; exact trivial)) (by (refine ⟨.box _ rfl ?_, ?_⟩; refine ⟨.intE (by first | with_reducible rfl | (first | rfl | (show (((lo : Int) + hi) / 2 + 1) = ((m + 1 : Nat) : Int); omega))), ?_⟩; refine ⟨.pvE (by first | with_reducible rfl | (first | rfl | (show (((lo : Int) + hi) / 2 + 1) = ((m + 1 : Nat) : Int); omega))), ?_⟩; (iterate 2 exact trivial))) rfl⟩
    · (refine zo ?_; refine zq ?_; (iterate 2 refine zm ?_); refine zs ?_; refine zd ?_; refine zc ?_; refine AW.skip ?_; refine thenD_n ?_; refine AW.block ?_; refine zq ?_; (conv => rhs; simp only [Nf.all, Nat.reduceBEq, reduceAdd, reduceSub]); (iterate 2 refine zm ?_); refine AOps.add rfl rfl rfl rfl rfl (by omega) ?_; refine AOps.quoE rfl rfl rfl rfl rfl (by omega) ?_; refine za ?_; refine zd ?_; refine zq ?_; (conv => rhs; simp only [Nf.all, Nat.reduceBEq, reduceAdd, reduceSub]); refine AOps.fieldAddrN 40 1 1 rfl rfl rfl rfl ?_; refine zb ?_; refine zm ?_; (focus ((with_reducible apply AOps.index_mapI); (iterate 7 exact rfl); omega; rotate_left; (first | omega | exact Nat.zero_lt_one | exact (by simp)))); refine zr ?_; refine zm ?_; refine zs ?_; refine zd ?_; refine AW.condN rfl rfl (by with_reducible assumption) ?_; refine AW.region ?_; (conv => rhs; simp only [Nf.all, Nat.reduceBEq, reduceAdd, reduceSub]); refine zm ?_; refine za ?_; refine AOps.nil ?_; refine inBlockD_n ?_; refine thenD_n ?_)
      exact ⟨(lo, m), ⟨by show lo ≤ m; omega, by show m ≤ _; omega, h3, fun j hj hjm => by
        have hjm : m ≤ j := hjm
        by_cases e : j = m
        · subst e; simp only [hm]; omega
        · have := inc_at h (i := (((lo : Int) + hi) / 2).toNat) (j := j) (by omega) hj
          omega⟩, by show m - lo < hi - lo; omega, weak rfl (by (refine ⟨.intE (by first | with_reducible rfl | (first | rfl | (show (((lo : Int) + hi) / 2) = ((m : Nat) : Int); omega))), ?_⟩; refine ⟨.intE (by first | with_reducible rfl | (first | rfl | (show (((lo : Int) + hi) / 2) = ((m : Nat) : Int); omega))), ?_⟩; refine ⟨.boolE (by first | with_reducible rfl | (first | rfl | (show (((lo : Int) + hi) / 2) = ((m : Nat) : Int); omega))), ?_⟩; refine ⟨.eq rfl rfl, ?_⟩; refine ⟨.intE (by first | with_reducible rfl | (first | rfl | (show (((lo : Int) + hi) / 2) = ((m : Nat) : Int); omega))), ?_⟩; exact trivial)) (by (refine ⟨.box _ rfl ?_, ?_⟩; refine ⟨.intE (by first | with_reducible rfl | (first | rfl | (show (((lo : Int) + hi) / 2) = ((m : Nat) : Int); omega))), ?_⟩; refine ⟨.pvE (by first | with_reducible rfl | (first | rfl | (show (((lo : Int) + hi) / 2) = ((m : Nat) : Int); omega))), ?_⟩; (iterate 2 exact trivial))) rfl⟩
  · obtain rfl : lo = hi := by omega
    by_cases hn : lo < l.length
    · by_cases he : l[lo] = x
      · have hx : x ∈ l := by rw [← he]; exact List.getElem_mem hn
        rw [decide_eq_true hx]
        (refine zo ?_; refine zq ?_; (iterate 2 refine zm ?_); refine zs ?_; refine zd ?_; refine zk ?_; refine AW.exit ?_; (iterate 2 refine thenD_exit ?_); refine inBlockD_exit ?_; refine thenD_n ?_; refine zq ?_; (conv => rhs; simp only [Nf.all, Nat.reduceBEq, reduceAdd, reduceSub]); refine zm ?_; refine AOps.fieldAddrN 40 1 1 rfl rfl rfl rfl ?_; refine zb ?_; refine zn ?_; refine zs ?_; refine zm ?_; refine zt ?_; refine AOps.fieldAddrN 40 1 1 rfl rfl rfl rfl ?_; refine zt ?_; refine zb ?_; refine zt ?_; refine zm ?_; refine zt ?_; (focus ((with_reducible apply AOps.index_map); (iterate 7 exact rfl); rotate_left; omega)); refine zt ?_; refine zr ?_; refine zt ?_; refine zm ?_; refine zt ?_; refine AOps.eql rfl rfl rfl rfl rfl ?_; refine AOps.pickT_pv rfl rfl (by first | omega | decide) rfl rfl rfl rfl ?_; refine za ?_; refine zd ?_; refine AW.ret ?_)
        all_goals (apply ends_ret; (exact Res.one (.tmp rfl rfl)); (refine Le.litB ?_; (first | rfl | exact decide_eq_true he)))
      · have hx : x ∉ l := by
          intro hx
          obtain ⟨j, hj, rfl⟩ := List.getElem_of_mem hx
          rcases Nat.lt_trichotomy j lo with g | g | g
          · have := h3 j hj g; omega
          · subst g; exact he rfl
          · have := inc_at h g hj
            have := h4 lo hn (Nat.le_refl _)
            omega
        rw [decide_eq_false hx]
        (refine zo ?_; refine zq ?_; (iterate 2 refine zm ?_); refine zs ?_; refine zd ?_; refine zk ?_; refine AW.exit ?_; (iterate 2 refine thenD_exit ?_); refine inBlockD_exit ?_; refine thenD_n ?_; refine zq ?_; (conv => rhs; simp only [Nf.all, Nat.reduceBEq, reduceAdd, reduceSub]); refine zm ?_; refine AOps.fieldAddrN 40 1 1 rfl rfl rfl rfl ?_; refine zb ?_; refine zn ?_; refine zs ?_; refine zm ?_; refine zt ?_; refine AOps.fieldAddrN 40 1 1 rfl rfl rfl rfl ?_; refine zt ?_; refine zb ?_; refine zt ?_; refine zm ?_; refine zt ?_; (focus ((with_reducible apply AOps.index_map); (iterate 7 exact rfl); rotate_left; omega)); refine zt ?_; refine zr ?_; refine zt ?_; refine zm ?_; refine zt ?_; refine AOps.eql rfl rfl rfl rfl rfl ?_; refine AOps.pickT_pv rfl rfl (by first | omega | decide) rfl rfl rfl rfl ?_; refine za ?_; refine zd ?_; refine AW.ret ?_)
        all_goals (apply ends_ret; (exact Res.one (.tmp rfl rfl)); (refine Le.litB ?_; (first | rfl | exact decide_eq_false he)))
    · have hx : x ∉ l := by
        intro hx
        obtain ⟨j, hj, rfl⟩ := List.getElem_of_mem hx
        have := h3 j hj (by omega); omega
      rw [decide_eq_false hx]
      (refine zo ?_; refine zq ?_; (iterate 2 refine zm ?_); refine zs ?_; refine zd ?_; refine zk ?_; refine AW.exit ?_; (iterate 2 refine thenD_exit ?_); refine inBlockD_exit ?_; refine thenD_n ?_; refine zq ?_; (conv => rhs; simp only [Nf.all, Nat.reduceBEq, reduceAdd, reduceSub]); refine zm ?_; refine AOps.fieldAddrN 40 1 1 rfl rfl rfl rfl ?_; refine zb ?_; refine zn ?_; refine zs ?_; refine zm ?_; (iterate 7 refine AOps.guardTn rfl rfl rfl rfl rfl rfl (by first | omega | decide) ?_); refine AOps.pickF_pv rfl rfl (by first | omega | decide) rfl rfl rfl rfl ?_; refine za ?_; refine zd ?_; refine AW.ret ?_)
      all_goals (apply ends_ret; (exact Res.one (.tmp rfl rfl)); (refine Le.litB ?_; (rfl)))
end Go.Ab
