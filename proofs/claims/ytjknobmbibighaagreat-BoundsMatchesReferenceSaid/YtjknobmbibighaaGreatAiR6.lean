/- Chapter 06's reference: rising lists, searched and added to. -/
import Derived.Test.YtjknobmbibighaaGreatAiU6
import Derived.Test.YtjknobmbibighaaGreatAbL2
set_option linter.unusedSimpArgs false
set_option linter.unusedVariables false
namespace Go.Ab
open Go Go.Proofs
open Nat (reduceAdd reduceSub)
set_option maxRecDepth 20000
set_option maxHeartbeats 4000000
theorem inc_at {l : List Int} (h : Inc l) {i j : Nat} (hi : i < j) (hj : j < l.length) : l[i] < l[j] := List.pairwise_iff_getElem.1 h i j (by omega) hj hi
theorem ins_canon {l : List Int} (h : Inc l) {x : Int} {p : Nat} (h1 : ∀ j (hj : j < l.length), j < p → l[j] < x) (h2 : ∀ j (hj : j < l.length), p ≤ j → x < l[j]) : l.take p ++ [x] ++ l.drop p = canon (l ++ [x]) := by
  have m1 : ∀ y ∈ l.take p, y < x := by
    intro y hy
    obtain ⟨j, hj, rfl⟩ := List.getElem_of_mem hy
    rw [List.length_take] at hj
    rw [List.getElem_take]
    exact h1 j (by omega) (by omega)
  have m2 : ∀ y ∈ l.drop p, x < y := by
    intro y hy
    obtain ⟨j, hj, rfl⟩ := List.getElem_of_mem hy
    rw [List.length_drop] at hj
    rw [List.getElem_drop]
    exact h2 (p + j) (by omega) (by omega)
  refine inc_ext ?_ (canon_inc _) fun y => ?_
  · show List.Pairwise _ _
    rw [List.pairwise_append]
    refine ⟨?_, h.sublist (List.drop_sublist p l), fun a ha b hb => ?_⟩
    · rw [List.pairwise_append]
      exact ⟨h.sublist (List.take_sublist p l), by simp, fun a ha b hb => by simp at hb; subst hb; exact m1 a ha⟩
    · have := m2 b hb
      rcases List.mem_append.1 ha with ha | ha
      · have := m1 a ha; omega
      · simp at ha; subst ha; exact this
  · rw [canon_mem]
    have e : y ∈ l ↔ y ∈ l.take p ∨ y ∈ l.drop p := by rw [← List.mem_append, List.take_append_drop]
    simp only [List.mem_append, e]
    constructor
    · rintro ((h | h) | h)
      · exact .inl (.inl h)
      · exact .inr h
      · exact .inl (.inr h)
    · rintro ((h | h) | h)
      · exact .inl (.inl h)
      · exact .inr h
      · exact .inl (.inr h)
theorem mem_canon_self {l : List Int} (h : Inc l) {x : Int} (hx : x ∈ l) : canon (l ++ [x]) = l := inc_ext (canon_inc _) h fun y => by
  rw [canon_mem, List.mem_append, List.mem_singleton]
  exact ⟨fun h' => h'.elim id (fun e => e ▸ hx), .inl⟩
attribute [local irreducible] AW AOps thenD inBlockD AR iterEnds roundEndsN inlEnds noGotoD canon
theorem rHas_fn (c : Int) (l : List Int) (x : Int) (hl : l.length ≤ 1000000) (h : Inc l) : Fn Tryz.prog 71 [relA (c, l), litI x] (litB (decide (x ∈ l))) := by
  refine Fn.enter (n := 42) Tryz.func71 rfl rfl rfl rfl rfl (by decide) fun g hro_ hwt_ => ?_; (try (conv => rhs; simp only [Nf.all, Nat.reduceBEq, reduceAdd, reduceSub]))
  (refine zq ?_; refine AOps.box rfl rfl rfl rfl ?_; (conv => rhs; simp only [Nf.all, Nat.reduceBEq, reduceAdd, reduceSub]); refine za ?_; refine zd ?_; refine zq ?_; (conv => rhs; simp only [Nf.all, Nat.reduceBEq, reduceAdd, reduceSub]); refine za ?_; refine zd ?_; refine zq ?_; (conv => rhs; simp only [Nf.all, Nat.reduceBEq, reduceAdd, reduceSub]); refine AOps.fieldAddrN 51 1 1 rfl rfl rfl rfl ?_; refine zb ?_; refine zn ?_; refine za ?_; refine zd ?_; refine zo ?_; refine AW.block ?_)
  ((conv => rhs; simp only [Nf.all, Nat.reduceBEq, reduceAdd, reduceSub]); apply AW.loopR [4, 2, 1] [0] (fun s : Nat × Nat => ([(5, litI s.1), (6, litI s.2)] : List (Nat × AV))) (fun s : Nat × Nat => ([] : List (Nat × Option Ob))) (fun s : Nat × Nat => s.1 ≤ s.2 ∧ s.2 ≤ l.length ∧ (∀ j (h : j < l.length), j < s.1 → l[j] < x) ∧ (∀ j (h : j < l.length), s.2 ≤ j → x ≤ l[j])) (fun s : Nat × Nat => s.2 - s.1) ((0, l.length)); (conv => lhs; simp only [Nf.lpR, Nf.all, Nat.reduceBEq, reduceAdd, reduceSub]); (all_goals skip))
  · exact ⟨Nat.zero_le _, Nat.le_refl _, fun j h h2 => by omega, fun j h h2 => by simp at h2; omega⟩
  · exact weak rfl (by (refine ⟨.eq rfl rfl, ?_⟩; (iterate 4 refine ⟨.eq rfl rfl, ?_⟩); exact trivial)) (by (refine ⟨.box _ rfl ?_, ?_⟩; (iterate 2 refine ⟨.eq rfl rfl, ?_⟩); (iterate 2 exact trivial))) rfl
  rintro ⟨lo, hi⟩ ⟨h1, h2, h3, h4⟩
  simp only at h1 h2 h3 h4 ⊢
  by_cases hlt : lo < hi
  · have hm0 : 0 ≤ ((lo : Int) + hi) / 2 := by omega
    have hmn : (((lo : Int) + hi) / 2).toNat < l.length := by omega
    obtain ⟨m, hm⟩ : ∃ m : Nat, m = (((lo : Int) + hi) / 2).toNat := ⟨_, rfl⟩
    by_cases hq : l[(((lo : Int) + hi) / 2).toNat] < x
    · (refine zo ?_; refine zq ?_; (iterate 2 refine zm ?_); refine zs ?_; refine zd ?_; refine zc ?_; refine AW.skip ?_; refine thenD_n ?_; refine AW.block ?_; refine zq ?_; (conv => rhs; simp only [Nf.all, Nat.reduceBEq, reduceAdd, reduceSub]); (iterate 2 refine zm ?_); refine AOps.add rfl rfl rfl rfl rfl (by omega) ?_; refine AOps.quoE rfl rfl rfl rfl rfl (by omega) ?_; refine za ?_; refine zd ?_; refine zq ?_; (conv => rhs; simp only [Nf.all, Nat.reduceBEq, reduceAdd, reduceSub]); refine AOps.fieldAddrN 51 1 1 rfl rfl rfl rfl ?_; refine zb ?_; refine zm ?_; (focus ((with_reducible apply AOps.index_mapI); (iterate 7 exact rfl); omega; rotate_left; (first | omega | exact Nat.zero_lt_one | exact (by simp)))); refine zr ?_; refine zm ?_; refine zs ?_; refine zd ?_; refine AW.condY rfl rfl (by with_reducible assumption) ?_; refine AW.region ?_; (conv => rhs; simp only [Nf.all, Nat.reduceBEq, reduceAdd, reduceSub]); refine zm ?_; refine AOps.add rfl rfl rfl rfl rfl (by omega) ?_; refine za ?_; refine AOps.nil ?_; refine inBlockD_n ?_; refine thenD_n ?_)
      exact ⟨(m + 1, hi), ⟨by show m + 1 ≤ hi; omega, h2, fun j hj hjm => by
        show l[j] < x
        have hjm : j < m + 1 := hjm
        by_cases e : j = m
        · subst e; simp only [hm]; exact hq
        · have := inc_at h (i := j) (j := (((lo : Int) + hi) / 2).toNat) (by omega) hmn
          omega, h4⟩, by show hi - (m + 1) < hi - lo; omega, weak rfl (by (refine ⟨.intE (by first | with_reducible rfl | (first | rfl | (show (((lo : Int) + hi) / 2 + 1) = ((m + 1 : Nat) : Int); omega))), ?_⟩; refine ⟨.intE (by first | with_reducible rfl | (first | rfl | (show (((lo : Int) + hi) / 2 + 1) = ((m + 1 : Nat) : Int); omega))), ?_⟩; refine ⟨.boolE (by first | with_reducible rfl | (first | rfl | (show (((lo : Int) + hi) / 2 + 1) = ((m + 1 : Nat) : Int); omega))), ?_⟩; refine ⟨.eq rfl rfl, ?_⟩; refine ⟨.intE (by first | with_reducible rfl | (first | rfl | (show (((lo : Int) + hi) / 2 + 1) = ((m + 1 : Nat) : Int); omega))), ?_⟩; exact trivial)) (by (refine ⟨.box _ rfl ?_, ?_⟩; refine ⟨.intE (by first | with_reducible rfl | (first | rfl | (show (((lo : Int) + hi) / 2 + 1) = ((m + 1 : Nat) : Int); omega))), ?_⟩; refine ⟨.pvE (by first | with_reducible rfl | (first | rfl | (show (((lo : Int) + hi) / 2 + 1) = ((m + 1 : Nat) : Int); omega))), ?_⟩; (iterate 2 exact trivial))) rfl⟩
    · (refine zo ?_; refine zq ?_; (iterate 2 refine zm ?_); refine zs ?_; refine zd ?_; refine zc ?_; refine AW.skip ?_; refine thenD_n ?_; refine AW.block ?_; refine zq ?_; (conv => rhs; simp only [Nf.all, Nat.reduceBEq, reduceAdd, reduceSub]); (iterate 2 refine zm ?_); refine AOps.add rfl rfl rfl rfl rfl (by omega) ?_; refine AOps.quoE rfl rfl rfl rfl rfl (by omega) ?_; refine za ?_; refine zd ?_; refine zq ?_; (conv => rhs; simp only [Nf.all, Nat.reduceBEq, reduceAdd, reduceSub]); refine AOps.fieldAddrN 51 1 1 rfl rfl rfl rfl ?_; refine zb ?_; refine zm ?_; (focus ((with_reducible apply AOps.index_mapI); (iterate 7 exact rfl); omega; rotate_left; (first | omega | exact Nat.zero_lt_one | exact (by simp)))); refine zr ?_; refine zm ?_; refine zs ?_; refine zd ?_; refine AW.condN rfl rfl (by with_reducible assumption) ?_; refine AW.region ?_; (conv => rhs; simp only [Nf.all, Nat.reduceBEq, reduceAdd, reduceSub]); refine zm ?_; refine za ?_; refine AOps.nil ?_; refine inBlockD_n ?_; refine thenD_n ?_)
      exact ⟨(lo, m), ⟨by show lo ≤ m; omega, by show m ≤ _; omega, h3, fun j hj hjm => by
        have hjm : m ≤ j := hjm
        by_cases e : j = m
        · subst e; simp only [hm]; omega
        · have := inc_at h (i := (((lo : Int) + hi) / 2).toNat) (j := j) (by omega) hj
          omega⟩, by show m - lo < hi - lo; omega, weak rfl (by (refine ⟨.intE (by first | with_reducible rfl | (first | rfl | (show (((lo : Int) + hi) / 2) = ((m : Nat) : Int); omega))), ?_⟩; refine ⟨.intE (by first | with_reducible rfl | (first | rfl | (show (((lo : Int) + hi) / 2) = ((m : Nat) : Int); omega))), ?_⟩; refine ⟨.boolE (by first | with_reducible rfl | (first | rfl | (show (((lo : Int) + hi) / 2) = ((m : Nat) : Int); omega))), ?_⟩; refine ⟨.eq rfl rfl, ?_⟩; refine ⟨.intE (by first | with_reducible rfl | (first | rfl | (show (((lo : Int) + hi) / 2) = ((m : Nat) : Int); omega))), ?_⟩; exact trivial)) (by (refine ⟨.box _ rfl ?_, ?_⟩; refine ⟨.intE (by first | with_reducible rfl | (first | rfl | (show (((lo : Int) + hi) / 2) = ((m : Nat) : Int); omega))), ?_⟩; refine ⟨.pvE (by first | with_reducible rfl | (first | rfl | (show (((lo : Int) + hi) / 2) = ((m : Nat) : Int); omega))), ?_⟩; (iterate 2 exact trivial))) rfl⟩
  · obtain rfl : lo = hi := by omega
    by_cases hn : lo < l.length
    · by_cases he : l[lo] = x
      · have hx : x ∈ l := by rw [← he]; exact List.getElem_mem hn
        rw [decide_eq_true hx]
        (refine zo ?_; refine zq ?_; (iterate 2 refine zm ?_); refine zs ?_; refine zd ?_; refine zk ?_; refine AW.exit ?_; (iterate 2 refine thenD_exit ?_); refine inBlockD_exit ?_; refine thenD_n ?_; refine zq ?_; (conv => rhs; simp only [Nf.all, Nat.reduceBEq, reduceAdd, reduceSub]); refine zm ?_; refine AOps.fieldAddrN 51 1 1 rfl rfl rfl rfl ?_; refine zb ?_; refine zn ?_; refine zs ?_; refine zm ?_; refine zt ?_; refine AOps.fieldAddrN 51 1 1 rfl rfl rfl rfl ?_; refine zt ?_; refine zb ?_; refine zt ?_; refine zm ?_; refine zt ?_; (focus ((with_reducible apply AOps.index_map); (iterate 7 exact rfl); rotate_left; omega)); refine zt ?_; refine zr ?_; refine zt ?_; refine zm ?_; refine zt ?_; refine AOps.eql rfl rfl rfl rfl rfl ?_; refine AOps.pickT_pv rfl rfl (by first | omega | decide) rfl rfl rfl rfl ?_; refine za ?_; refine zd ?_; refine AW.ret ?_)
        all_goals (apply ends_ret; (exact Res.one (.tmp rfl rfl)); (refine Le.litB ?_; (first | rfl | exact decide_eq_true he)))
      · have hx : x ∉ l := by
          intro hx
          obtain ⟨j, hj, rfl⟩ := List.getElem_of_mem hx
          rcases Nat.lt_trichotomy j lo with g | g | g
          · have := h3 j hj g; omega
          · subst g; exact he rfl
          · have := inc_at h g hj
            have := h4 lo hn (Nat.le_refl _)
            omega
        rw [decide_eq_false hx]
        (refine zo ?_; refine zq ?_; (iterate 2 refine zm ?_); refine zs ?_; refine zd ?_; refine zk ?_; refine AW.exit ?_; (iterate 2 refine thenD_exit ?_); refine inBlockD_exit ?_; refine thenD_n ?_; refine zq ?_; (conv => rhs; simp only [Nf.all, Nat.reduceBEq, reduceAdd, reduceSub]); refine zm ?_; refine AOps.fieldAddrN 51 1 1 rfl rfl rfl rfl ?_; refine zb ?_; refine zn ?_; refine zs ?_; refine zm ?_; refine zt ?_; refine AOps.fieldAddrN 51 1 1 rfl rfl rfl rfl ?_; refine zt ?_; refine zb ?_; refine zt ?_; refine zm ?_; refine zt ?_; (focus ((with_reducible apply AOps.index_map); (iterate 7 exact rfl); rotate_left; omega)); refine zt ?_; refine zr ?_; refine zt ?_; refine zm ?_; refine zt ?_; refine AOps.eql rfl rfl rfl rfl rfl ?_; refine AOps.pickT_pv rfl rfl (by first | omega | decide) rfl rfl rfl rfl ?_; refine za ?_; refine zd ?_; refine AW.ret ?_)
        all_goals (apply ends_ret; (exact Res.one (.tmp rfl rfl)); (refine Le.litB ?_; (first | rfl | exact decide_eq_false he)))
    · have hx : x ∉ l := by
        intro hx
        obtain ⟨j, hj, rfl⟩ := List.getElem_of_mem hx
        have := h3 j hj (by omega); omega
      rw [decide_eq_false hx]
      (refine zo ?_; refine zq ?_; (iterate 2 refine zm ?_); refine zs ?_; refine zd ?_; refine zk ?_; refine AW.exit ?_; (iterate 2 refine thenD_exit ?_); refine inBlockD_exit ?_; refine thenD_n ?_; refine zq ?_; (conv => rhs; simp only [Nf.all, Nat.reduceBEq, reduceAdd, reduceSub]); refine zm ?_; refine AOps.fieldAddrN 51 1 1 rfl rfl rfl rfl ?_; refine zb ?_; refine zn ?_; refine zs ?_; refine zm ?_; (iterate 7 refine AOps.guardTn rfl rfl rfl rfl rfl rfl (by first | omega | decide) ?_); refine AOps.pickF_pv rfl rfl (by first | omega | decide) rfl rfl rfl rfl ?_; refine za ?_; refine zd ?_; refine AW.ret ?_)
      all_goals (apply ends_ret; (exact Res.one (.tmp rfl rfl)); (refine Le.litB ?_; (rfl)))
theorem rAdd_fn (l : List Int) (x : Int) (hl : l.length ≤ 1000000) (h : Inc l) : Fn Tryz.prog 82 [.pv (ints l), litI x] (.pv (ints (canon (l ++ [x])))) := by
  refine Fn.enter (n := 50) Tryz.func82 rfl rfl rfl rfl rfl (by decide) fun g hro_ hwt_ => ?_; (try (conv => rhs; simp only [Nf.all, Nat.reduceBEq, reduceAdd, reduceSub]))
  (refine zq ?_; refine za ?_; refine zd ?_; refine zq ?_; (conv => rhs; simp only [Nf.all, Nat.reduceBEq, reduceAdd, reduceSub]); refine zm ?_; refine zn ?_; refine za ?_; refine zd ?_; refine zo ?_; refine AW.block ?_)
  ((conv => rhs; simp only [Nf.all, Nat.reduceBEq, reduceAdd, reduceSub]); apply AW.loopR [4, 0, 1] [] (fun s : Nat => ([(5, litI s)] : List (Nat × AV))) (fun s : Nat => ([] : List (Nat × Option Ob))) (fun s : Nat => s ≤ l.length ∧ (∀ j (h : j < l.length), s ≤ j → x ≤ l[j])) (fun s : Nat => s) (l.length); (conv => lhs; simp only [Nf.lpR, Nf.all, Nat.reduceBEq, reduceAdd, reduceSub]); (all_goals skip))
  · exact ⟨Nat.le_refl _, fun j h h2 => by omega⟩
  · exact weak rfl (by (refine ⟨.eq rfl rfl, ?_⟩; (iterate 3 refine ⟨.eq rfl rfl, ?_⟩); exact trivial)) (by (exact trivial)) rfl
  rintro p ⟨h1, h2⟩
  have fin : (p = 0 ∨ ∃ h : p - 1 < l.length, l[p - 1] < x) → ∀ j (hj : j < l.length), j < p → l[j] < x := by
    intro h0 j hj hjp
    rcases h0 with h0 | ⟨h0, h3⟩
    · omega
    · by_cases e : j = p - 1
      · subst e; exact h3
      · have := inc_at h (i := j) (j := p - 1) (by omega) h0
        omega
  have rest : (p = 0 ∨ ∃ h : p - 1 < l.length, l[p - 1] < x) → ¬ (∃ h : p < l.length, l[p] = x) → l.take p ++ [x] ++ l.drop p = canon (l ++ [x]) := by
    intro h0 hne
    refine ins_canon h (fin h0) fun j hj hjp => ?_
    have h3 := h2 j hj hjp
    by_cases e : l[j] = x
    · exfalso
      apply hne
      refine ⟨by omega, ?_⟩
      have h4 := h2 p (by omega) (Nat.le_refl _)
      by_cases e2 : p = j
      · subst e2; exact e
      · have := inc_at h (i := p) (j := j) (by omega) hj
        omega
    · omega
  have tail : (p = 0 ∨ ∃ h : p - 1 < l.length, l[p - 1] < x) → True := fun _ => trivial
  by_cases hp0 : 0 < p
  · have hpi : ((p : Int) - 1).toNat = p - 1 := by omega
    have hpl : ((p : Int) - 1).toNat < l.length := by omega
    by_cases hq : x ≤ l[((p : Int) - 1).toNat]
    · (refine zo ?_; refine zq ?_; refine zm ?_; refine AOps.gtr rfl rfl rfl rfl rfl ?_; refine zm ?_; refine zt ?_; refine zm ?_; refine zt ?_; refine zm ?_; refine zt ?_; refine AOps.sub rfl rfl rfl rfl rfl (by omega) ?_; refine zt ?_; (focus ((with_reducible apply AOps.index_mapI); (iterate 7 exact rfl); omega; rotate_left; (first | omega | exact Nat.zero_lt_one | exact (by simp)))); refine zt ?_; refine zr ?_; refine zt ?_; refine zm ?_; refine zt ?_; refine AOps.geq rfl rfl rfl rfl rfl ?_; refine AOps.pickT_pv rfl rfl (by first | omega | decide) rfl rfl rfl rfl ?_; refine zd ?_; refine AW.condY rfl rfl (by with_reducible assumption) ?_; refine AW.skip ?_; refine thenD_n ?_; refine AW.block ?_; refine AW.region ?_; (conv => rhs; simp only [Nf.all, Nat.reduceBEq, reduceAdd, reduceSub]); refine zm ?_; refine AOps.sub rfl rfl rfl rfl rfl (by omega) ?_; refine za ?_; refine AOps.nil ?_; refine inBlockD_n ?_; refine thenD_n ?_)
      exact ⟨p - 1, ⟨by omega, fun j hj hjp => by
        by_cases e : j = p - 1
        · subst e; simpa only [hpi] using hq
        · exact h2 j hj (by omega)⟩, by omega, weak rfl (by (refine ⟨.intE (by first | with_reducible rfl | (first | rfl | omega)), ?_⟩; refine ⟨.eq rfl rfl, ?_⟩; refine ⟨.pvE (by first | with_reducible rfl | (first | rfl | omega)), ?_⟩; refine ⟨.intE (by first | with_reducible rfl | (first | rfl | omega)), ?_⟩; exact trivial)) (by (exact trivial)) rfl⟩
    · have hq2 : ¬ x ≤ l[p - 1] := by simpa only [hpi] using hq
      have hq' : p = 0 ∨ ∃ h : p - 1 < l.length, l[p - 1] < x := .inr ⟨by omega, by omega⟩
      by_cases hn : p < l.length
      · by_cases he : l[p] = x
        · have hc : canon (l ++ [x]) = l := mem_canon_self h (by rw [← he]; exact List.getElem_mem hn)
          rw [hc]
          (refine zo ?_; refine zq ?_; refine zm ?_; refine AOps.gtr rfl rfl rfl rfl rfl ?_; refine zm ?_; refine zt ?_; refine zm ?_; refine zt ?_; refine zm ?_; refine zt ?_; refine AOps.sub rfl rfl rfl rfl rfl (by omega) ?_; refine zt ?_; (focus ((with_reducible apply AOps.index_mapI); (iterate 7 exact rfl); omega; rotate_left; (first | omega | exact Nat.zero_lt_one | exact (by simp)))); refine zt ?_; refine zr ?_; refine zt ?_; refine zm ?_; refine zt ?_; refine AOps.geq rfl rfl rfl rfl rfl ?_; refine AOps.pickT_pv rfl rfl (by first | omega | decide) rfl rfl rfl rfl ?_; refine zd ?_; refine AW.condN rfl rfl (by with_reducible assumption) ?_; refine AW.exit ?_; (iterate 2 refine thenD_exit ?_); refine inBlockD_exit ?_; refine thenD_n ?_; refine zo ?_; refine zq ?_; (conv => rhs; simp only [Nf.all, Nat.reduceBEq, reduceAdd, reduceSub]); (iterate 2 refine zm ?_); refine zn ?_; refine zs ?_; refine zm ?_; refine zt ?_; refine zm ?_; refine zt ?_; refine zm ?_; refine zt ?_; (focus ((with_reducible apply AOps.index_map); (iterate 7 exact rfl); rotate_left; omega)); refine zt ?_; refine zr ?_; refine zt ?_; refine zm ?_; refine zt ?_; refine AOps.eql rfl rfl rfl rfl rfl ?_; refine AOps.pickT_pv rfl rfl (by first | omega | decide) rfl rfl rfl rfl ?_; refine zd ?_; refine AW.condY rfl rfl (by with_reducible assumption) ?_; refine zq ?_; (conv => rhs; simp only [Nf.all, Nat.reduceBEq, reduceAdd, reduceSub]); refine zm ?_; refine za ?_; refine zd ?_; refine AW.ret ?_; refine thenD_ret ?_)
          all_goals (apply ends_ret; (exact Res.one (.tmp rfl rfl)); (refine Le.pvE ?_; (rfl)))
        · have hr := rest hq' (by rintro ⟨_, e⟩; exact he e)
          (refine zo ?_; refine zq ?_; refine zm ?_; refine AOps.gtr rfl rfl rfl rfl rfl ?_; refine zm ?_; refine zt ?_; refine zm ?_; refine zt ?_; refine zm ?_; refine zt ?_; refine AOps.sub rfl rfl rfl rfl rfl (by omega) ?_; refine zt ?_; (focus ((with_reducible apply AOps.index_mapI); (iterate 7 exact rfl); omega; rotate_left; (first | omega | exact Nat.zero_lt_one | exact (by simp)))); refine zt ?_; refine zr ?_; refine zt ?_; refine zm ?_; refine zt ?_; refine AOps.geq rfl rfl rfl rfl rfl ?_; refine AOps.pickT_pv rfl rfl (by first | omega | decide) rfl rfl rfl rfl ?_; refine zd ?_; refine AW.condN rfl rfl (by with_reducible assumption) ?_; refine AW.exit ?_; (iterate 2 refine thenD_exit ?_); refine inBlockD_exit ?_; refine thenD_n ?_; refine zo ?_; refine zq ?_; (conv => rhs; simp only [Nf.all, Nat.reduceBEq, reduceAdd, reduceSub]); (iterate 2 refine zm ?_); refine zn ?_; refine zs ?_; refine zm ?_; refine zt ?_; refine zm ?_; refine zt ?_; refine zm ?_; refine zt ?_; (focus ((with_reducible apply AOps.index_map); (iterate 7 exact rfl); rotate_left; omega)); refine zt ?_; refine zr ?_; refine zt ?_; refine zm ?_; refine zt ?_; refine AOps.eql rfl rfl rfl rfl rfl ?_; refine AOps.pickT_pv rfl rfl (by first | omega | decide) rfl rfl rfl rfl ?_; refine zd ?_; refine AW.condN rfl rfl (by with_reducible assumption) ?_; refine AW.skip ?_; refine thenD_n ?_; refine zq ?_; (conv => rhs; simp only [Nf.all, Nat.reduceBEq, reduceAdd, reduceSub]); refine AOps.bs0 rfl rfl rfl rfl rfl ?_; (conv => rhs; simp only [Nf.all, Nat.reduceBEq, reduceAdd, reduceSub]); (iterate 2 refine zm ?_); refine AOps.slice_to rfl rfl rfl rfl rfl rfl rfl (by omega) ?_; (with_reducible apply AOps.appendS); exact rfl; (first | exact .pv rfl | exact .own rfl | exact .nil rfl); (iterate 9 exact rfl); (first | omega | (simp only [List.length_map, List.length_append, List.length_cons, List.length_nil, List.length_drop, List.length_take, chunk_len]; omega)); (conv => rhs; simp only [Nf.all, Nat.reduceBEq, reduceAdd, reduceSub]); refine AOps.assign_own rfl rfl rfl ?_; refine zd ?_; refine zq ?_; (conv => rhs; simp only [Nf.all, Nat.reduceBEq, reduceAdd, reduceSub]); refine AOps.move_own rfl rfl rfl ?_; refine zm ?_; refine AOps.bs1 rfl rfl rfl rfl rfl rfl rfl rfl ?_; (conv => rhs; simp only [Nf.all, Nat.reduceBEq, reduceAdd, reduceSub]); (with_reducible apply AOps.appendS); exact rfl; (first | exact .pv rfl | exact .own rfl | exact .nil rfl); (iterate 9 exact rfl); (first | omega | (simp only [List.length_map, List.length_append, List.length_cons, List.length_nil, List.length_drop, List.length_take, chunk_len]; omega)); (conv => rhs; simp only [Nf.all, Nat.reduceBEq, reduceAdd, reduceSub]); refine AOps.assign_own rfl rfl rfl ?_; refine zd ?_; refine zq ?_; (conv => rhs; simp only [Nf.all, Nat.reduceBEq, reduceAdd, reduceSub]); refine AOps.move_own rfl rfl rfl ?_; (iterate 2 refine zm ?_); refine AOps.slice_frI rfl rfl rfl rfl rfl rfl rfl (by omega) (by omega) ?_; (with_reducible apply AOps.appendS); exact rfl; (first | exact .pv rfl | exact .own rfl | exact .nil rfl); (iterate 9 exact rfl); (first | omega | (simp only [List.length_map, List.length_append, List.length_cons, List.length_nil, List.length_drop, List.length_take, chunk_len]; omega)); (conv => rhs; simp only [Nf.all, Nat.reduceBEq, reduceAdd, reduceSub]); refine AOps.assign_own rfl rfl rfl ?_; refine zd ?_; refine zq ?_; (conv => rhs; simp only [Nf.all, Nat.reduceBEq, reduceAdd, reduceSub]); refine AOps.move_own rfl rfl rfl ?_; refine AOps.assign_own rfl rfl rfl ?_; refine zd ?_; refine AW.ret ?_)
          all_goals (apply ends_ret; (exact Res.one (.tmp rfl rfl)); (refine Le.ownE ?_; (first | rfl | (rw [← hr]; simp [encI]))))
      · have hr := rest hq' (by rintro ⟨h5, _⟩; omega)
        (refine zo ?_; refine zq ?_; refine zm ?_; refine AOps.gtr rfl rfl rfl rfl rfl ?_; refine zm ?_; refine zt ?_; refine zm ?_; refine zt ?_; refine zm ?_; refine zt ?_; refine AOps.sub rfl rfl rfl rfl rfl (by omega) ?_; refine zt ?_; (focus ((with_reducible apply AOps.index_mapI); (iterate 7 exact rfl); omega; rotate_left; (first | omega | exact Nat.zero_lt_one | exact (by simp)))); refine zt ?_; refine zr ?_; refine zt ?_; refine zm ?_; refine zt ?_; refine AOps.geq rfl rfl rfl rfl rfl ?_; refine AOps.pickT_pv rfl rfl (by first | omega | decide) rfl rfl rfl rfl ?_; refine zd ?_; refine AW.condN rfl rfl (by with_reducible assumption) ?_; refine AW.exit ?_; (iterate 2 refine thenD_exit ?_); refine inBlockD_exit ?_; refine thenD_n ?_; refine zo ?_; refine zq ?_; (conv => rhs; simp only [Nf.all, Nat.reduceBEq, reduceAdd, reduceSub]); (iterate 2 refine zm ?_); refine zn ?_; refine zs ?_; refine zm ?_; (iterate 6 refine AOps.guardTn rfl rfl rfl rfl rfl rfl (by first | omega | decide) ?_); refine AOps.pickF_pv rfl rfl (by first | omega | decide) rfl rfl rfl rfl ?_; refine zd ?_; refine AW.cond_lf rfl rfl ?_; refine AW.skip ?_; refine thenD_n ?_; refine zq ?_; (conv => rhs; simp only [Nf.all, Nat.reduceBEq, reduceAdd, reduceSub]); refine AOps.bs0 rfl rfl rfl rfl rfl ?_; (conv => rhs; simp only [Nf.all, Nat.reduceBEq, reduceAdd, reduceSub]); (iterate 2 refine zm ?_); refine AOps.slice_to rfl rfl rfl rfl rfl rfl rfl (by omega) ?_; (with_reducible apply AOps.appendS); exact rfl; (first | exact .pv rfl | exact .own rfl | exact .nil rfl); (iterate 9 exact rfl); (first | omega | (simp only [List.length_map, List.length_append, List.length_cons, List.length_nil, List.length_drop, List.length_take, chunk_len]; omega)); (conv => rhs; simp only [Nf.all, Nat.reduceBEq, reduceAdd, reduceSub]); refine AOps.assign_own rfl rfl rfl ?_; refine zd ?_; refine zq ?_; (conv => rhs; simp only [Nf.all, Nat.reduceBEq, reduceAdd, reduceSub]); refine AOps.move_own rfl rfl rfl ?_; refine zm ?_; refine AOps.bs1 rfl rfl rfl rfl rfl rfl rfl rfl ?_; (conv => rhs; simp only [Nf.all, Nat.reduceBEq, reduceAdd, reduceSub]); (with_reducible apply AOps.appendS); exact rfl; (first | exact .pv rfl | exact .own rfl | exact .nil rfl); (iterate 9 exact rfl); (first | omega | (simp only [List.length_map, List.length_append, List.length_cons, List.length_nil, List.length_drop, List.length_take, chunk_len]; omega)); (conv => rhs; simp only [Nf.all, Nat.reduceBEq, reduceAdd, reduceSub]); refine AOps.assign_own rfl rfl rfl ?_; refine zd ?_; refine zq ?_; (conv => rhs; simp only [Nf.all, Nat.reduceBEq, reduceAdd, reduceSub]); refine AOps.move_own rfl rfl rfl ?_; (iterate 2 refine zm ?_); refine AOps.slice_frI rfl rfl rfl rfl rfl rfl rfl (by omega) (by omega) ?_; (with_reducible apply AOps.appendS); exact rfl; (first | exact .pv rfl | exact .own rfl | exact .nil rfl); (iterate 9 exact rfl); (first | omega | (simp only [List.length_map, List.length_append, List.length_cons, List.length_nil, List.length_drop, List.length_take, chunk_len]; omega)); (conv => rhs; simp only [Nf.all, Nat.reduceBEq, reduceAdd, reduceSub]); refine AOps.assign_own rfl rfl rfl ?_; refine zd ?_; refine zq ?_; (conv => rhs; simp only [Nf.all, Nat.reduceBEq, reduceAdd, reduceSub]); refine AOps.move_own rfl rfl rfl ?_; refine AOps.assign_own rfl rfl rfl ?_; refine zd ?_; refine AW.ret ?_)
        all_goals (apply ends_ret; (exact Res.one (.tmp rfl rfl)); (refine Le.ownE ?_; (first | rfl | (rw [← hr]; simp [encI]))))
  · have hq' : p = 0 ∨ ∃ h : p - 1 < l.length, l[p - 1] < x := .inl (by omega)
    by_cases hn : p < l.length
    · by_cases he : l[p] = x
      · have hc : canon (l ++ [x]) = l := mem_canon_self h (by rw [← he]; exact List.getElem_mem hn)
        rw [hc]
        (refine zo ?_; refine zq ?_; refine zm ?_; refine AOps.gtr rfl rfl rfl rfl rfl ?_; refine zm ?_; (iterate 7 refine AOps.guardTn rfl rfl rfl rfl rfl rfl (by first | omega | decide) ?_); refine AOps.pickF_pv rfl rfl (by first | omega | decide) rfl rfl rfl rfl ?_; refine zd ?_; refine AW.cond_lf rfl rfl ?_; refine AW.exit ?_; (iterate 2 refine thenD_exit ?_); refine inBlockD_exit ?_; refine thenD_n ?_; refine zo ?_; refine zq ?_; (conv => rhs; simp only [Nf.all, Nat.reduceBEq, reduceAdd, reduceSub]); (iterate 2 refine zm ?_); refine zn ?_; refine zs ?_; refine zm ?_; refine zt ?_; refine zm ?_; refine zt ?_; refine zm ?_; refine zt ?_; (focus ((with_reducible apply AOps.index_map); (iterate 7 exact rfl); rotate_left; omega)); refine zt ?_; refine zr ?_; refine zt ?_; refine zm ?_; refine zt ?_; refine AOps.eql rfl rfl rfl rfl rfl ?_; refine AOps.pickT_pv rfl rfl (by first | omega | decide) rfl rfl rfl rfl ?_; refine zd ?_; refine AW.condY rfl rfl (by with_reducible assumption) ?_; refine zq ?_; (conv => rhs; simp only [Nf.all, Nat.reduceBEq, reduceAdd, reduceSub]); refine zm ?_; refine za ?_; refine zd ?_; refine AW.ret ?_; refine thenD_ret ?_)
        all_goals (apply ends_ret; (exact Res.one (.tmp rfl rfl)); (refine Le.pvE ?_; (rfl)))
      · have hr := rest hq' (by rintro ⟨_, e⟩; exact he e)
        (refine zo ?_; refine zq ?_; refine zm ?_; refine AOps.gtr rfl rfl rfl rfl rfl ?_; refine zm ?_; (iterate 7 refine AOps.guardTn rfl rfl rfl rfl rfl rfl (by first | omega | decide) ?_); refine AOps.pickF_pv rfl rfl (by first | omega | decide) rfl rfl rfl rfl ?_; refine zd ?_; refine AW.cond_lf rfl rfl ?_; refine AW.exit ?_; (iterate 2 refine thenD_exit ?_); refine inBlockD_exit ?_; refine thenD_n ?_; refine zo ?_; refine zq ?_; (conv => rhs; simp only [Nf.all, Nat.reduceBEq, reduceAdd, reduceSub]); (iterate 2 refine zm ?_); refine zn ?_; refine zs ?_; refine zm ?_; refine zt ?_; refine zm ?_; refine zt ?_; refine zm ?_; refine zt ?_; (focus ((with_reducible apply AOps.index_map); (iterate 7 exact rfl); rotate_left; omega)); refine zt ?_; refine zr ?_; refine zt ?_; refine zm ?_; refine zt ?_; refine AOps.eql rfl rfl rfl rfl rfl ?_; refine AOps.pickT_pv rfl rfl (by first | omega | decide) rfl rfl rfl rfl ?_; refine zd ?_; refine AW.condN rfl rfl (by with_reducible assumption) ?_; refine AW.skip ?_; refine thenD_n ?_; refine zq ?_; (conv => rhs; simp only [Nf.all, Nat.reduceBEq, reduceAdd, reduceSub]); refine AOps.bs0 rfl rfl rfl rfl rfl ?_; (conv => rhs; simp only [Nf.all, Nat.reduceBEq, reduceAdd, reduceSub]); (iterate 2 refine zm ?_); refine AOps.slice_to rfl rfl rfl rfl rfl rfl rfl (by omega) ?_; (with_reducible apply AOps.appendS); exact rfl; (first | exact .pv rfl | exact .own rfl | exact .nil rfl); (iterate 9 exact rfl); (first | omega | (simp only [List.length_map, List.length_append, List.length_cons, List.length_nil, List.length_drop, List.length_take, chunk_len]; omega)); (conv => rhs; simp only [Nf.all, Nat.reduceBEq, reduceAdd, reduceSub]); refine AOps.assign_own rfl rfl rfl ?_; refine zd ?_; refine zq ?_; (conv => rhs; simp only [Nf.all, Nat.reduceBEq, reduceAdd, reduceSub]); refine AOps.move_own rfl rfl rfl ?_; refine zm ?_; refine AOps.bs1 rfl rfl rfl rfl rfl rfl rfl rfl ?_; (conv => rhs; simp only [Nf.all, Nat.reduceBEq, reduceAdd, reduceSub]); (with_reducible apply AOps.appendS); exact rfl; (first | exact .pv rfl | exact .own rfl | exact .nil rfl); (iterate 9 exact rfl); (first | omega | (simp only [List.length_map, List.length_append, List.length_cons, List.length_nil, List.length_drop, List.length_take, chunk_len]; omega)); (conv => rhs; simp only [Nf.all, Nat.reduceBEq, reduceAdd, reduceSub]); refine AOps.assign_own rfl rfl rfl ?_; refine zd ?_; refine zq ?_; (conv => rhs; simp only [Nf.all, Nat.reduceBEq, reduceAdd, reduceSub]); refine AOps.move_own rfl rfl rfl ?_; (iterate 2 refine zm ?_); refine AOps.slice_frI rfl rfl rfl rfl rfl rfl rfl (by omega) (by omega) ?_; (with_reducible apply AOps.appendS); exact rfl; (first | exact .pv rfl | exact .own rfl | exact .nil rfl); (iterate 9 exact rfl); (first | omega | (simp only [List.length_map, List.length_append, List.length_cons, List.length_nil, List.length_drop, List.length_take, chunk_len]; omega)); (conv => rhs; simp only [Nf.all, Nat.reduceBEq, reduceAdd, reduceSub]); refine AOps.assign_own rfl rfl rfl ?_; refine zd ?_; refine zq ?_; (conv => rhs; simp only [Nf.all, Nat.reduceBEq, reduceAdd, reduceSub]); refine AOps.move_own rfl rfl rfl ?_; refine AOps.assign_own rfl rfl rfl ?_; refine zd ?_; refine AW.ret ?_)
        all_goals (apply ends_ret; (exact Res.one (.tmp rfl rfl)); (refine Le.ownE ?_; (first | rfl | (rw [← hr]; simp [encI]))))
    · have hr := rest hq' (by rintro ⟨h5, _⟩; omega)
      (refine zo ?_; refine zq ?_; refine zm ?_; refine AOps.gtr rfl rfl rfl rfl rfl ?_; refine zm ?_; (iterate 7 refine AOps.guardTn rfl rfl rfl rfl rfl rfl (by first | omega | decide) ?_); refine AOps.pickF_pv rfl rfl (by first | omega | decide) rfl rfl rfl rfl ?_; refine zd ?_; refine AW.cond_lf rfl rfl ?_; refine AW.exit ?_; (iterate 2 refine thenD_exit ?_); refine inBlockD_exit ?_; refine thenD_n ?_; refine zo ?_; refine zq ?_; (conv => rhs; simp only [Nf.all, Nat.reduceBEq, reduceAdd, reduceSub]); (iterate 2 refine zm ?_); refine zn ?_; refine zs ?_; refine zm ?_; (iterate 6 refine AOps.guardTn rfl rfl rfl rfl rfl rfl (by first | omega | decide) ?_); refine AOps.pickF_pv rfl rfl (by first | omega | decide) rfl rfl rfl rfl ?_; refine zd ?_; refine AW.cond_lf rfl rfl ?_; refine AW.skip ?_; refine thenD_n ?_; refine zq ?_; (conv => rhs; simp only [Nf.all, Nat.reduceBEq, reduceAdd, reduceSub]); refine AOps.bs0 rfl rfl rfl rfl rfl ?_; (conv => rhs; simp only [Nf.all, Nat.reduceBEq, reduceAdd, reduceSub]); (iterate 2 refine zm ?_); refine AOps.slice_to rfl rfl rfl rfl rfl rfl rfl (by omega) ?_; (with_reducible apply AOps.appendS); exact rfl; (first | exact .pv rfl | exact .own rfl | exact .nil rfl); (iterate 9 exact rfl); (first | omega | (simp only [List.length_map, List.length_append, List.length_cons, List.length_nil, List.length_drop, List.length_take, chunk_len]; omega)); (conv => rhs; simp only [Nf.all, Nat.reduceBEq, reduceAdd, reduceSub]); refine AOps.assign_own rfl rfl rfl ?_; refine zd ?_; refine zq ?_; (conv => rhs; simp only [Nf.all, Nat.reduceBEq, reduceAdd, reduceSub]); refine AOps.move_own rfl rfl rfl ?_; refine zm ?_; refine AOps.bs1 rfl rfl rfl rfl rfl rfl rfl rfl ?_; (conv => rhs; simp only [Nf.all, Nat.reduceBEq, reduceAdd, reduceSub]); (with_reducible apply AOps.appendS); exact rfl; (first | exact .pv rfl | exact .own rfl | exact .nil rfl); (iterate 9 exact rfl); (first | omega | (simp only [List.length_map, List.length_append, List.length_cons, List.length_nil, List.length_drop, List.length_take, chunk_len]; omega)); (conv => rhs; simp only [Nf.all, Nat.reduceBEq, reduceAdd, reduceSub]); refine AOps.assign_own rfl rfl rfl ?_; refine zd ?_; refine zq ?_; (conv => rhs; simp only [Nf.all, Nat.reduceBEq, reduceAdd, reduceSub]); refine AOps.move_own rfl rfl rfl ?_; (iterate 2 refine zm ?_); refine AOps.slice_frI rfl rfl rfl rfl rfl rfl rfl (by omega) (by omega) ?_; (with_reducible apply AOps.appendS); exact rfl; (first | exact .pv rfl | exact .own rfl | exact .nil rfl); (iterate 9 exact rfl); (first | omega | (simp only [List.length_map, List.length_append, List.length_cons, List.length_nil, List.length_drop, List.length_take, chunk_len]; omega)); (conv => rhs; simp only [Nf.all, Nat.reduceBEq, reduceAdd, reduceSub]); refine AOps.assign_own rfl rfl rfl ?_; refine zd ?_; refine zq ?_; (conv => rhs; simp only [Nf.all, Nat.reduceBEq, reduceAdd, reduceSub]); refine AOps.move_own rfl rfl rfl ?_; refine AOps.assign_own rfl rfl rfl ?_; refine zd ?_; refine AW.ret ?_)
      all_goals (apply ends_ret; (exact Res.one (.tmp rfl rfl)); (refine Le.ownE ?_; (first | rfl | (rw [← hr]; simp [encI]))))
end Go.Ab
