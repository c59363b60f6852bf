/- Chapter 07: the shortest model, walked. -/
import Derived.Test.YtkejholhdmppmaaAkG
import Derived.Test.YtkejholhdmppmaaAbL2
set_option linter.unusedSimpArgs false
set_option linter.unusedVariables false
namespace Go.Ab
open Go Go.Proofs
open Nat (reduceAdd reduceSub)
set_option maxRecDepth 20000
set_option maxHeartbeats 4000000
theorem take_states {m : ModM} (h : Lp m) {n : Nat} : ∀ s ∈ m.states.take n, SmR s := fun s hs => h.sm s (List.mem_of_mem_take hs)
attribute [local irreducible] AW AOps thenD inBlockD AR iterEnds roundEndsN inlEnds noGotoD
theorem shorten_fn (m : ModM) (h : Lp m) (hlen : m.states.length ≤ 1000) (hat : m.atoms.length ≤ 1000) (n l : Nat) (hs : Short (stM m) n l) : Fn Try.prog 15 [mdl m] (mdl (shM m n l)) := by
  have hnk := hs.le h
  have hrl := hs.1.1
  have h1 := h.lo
  have h2 := h.hi
  have hsm := take_states h (n := n)
  have hst : ∀ a j, j < a → a < m.states.length → ∃ r : Bool, Fn Try.prog 13 [mdl (shM m a j), mdl m] (litB r) ∧ (r = true ↔ Rep (stM m) a j) := fun a j hj ha =>
    ⟨_, sameTrace_fn _ _ (shM_lp h hj (by omega)) h (by simp [shM]; omega) hlen, by rw [sameTr_iff, sameTr_sh h hj (by omega)]⟩
  have hself : Rep (stM m) m.states.length m.loop.toNat := rep_self (d := ([] : List RelM)) h.lt
  have hun : ∀ a j, Rep (stM m) a j → a ≤ n → a = n ∧ j = l := fun a j hr ha => by
    have := hs.2 _ _ hr
    have e : a = n := by omega
    subst e
    exact ⟨rfl, (Short.uniq ⟨hr, hs.2⟩ hs).2⟩
  have hmin := hs.2
  have hrep := hs.1
  have hcl := clone_fn m.atoms (by omega)
  generalize stM m = T at hst hself hun hmin hrep hs
  clear h hs
  unfold shM at hst ⊢
  try simp only at hst ⊢
  obtain ⟨at', st, ss, lp⟩ := m
  simp only at *
  refine Fn.enter (n := 66) Try.func15 rfl rfl rfl rfl rfl (by decide) fun g hro_ hwt_ => ?_; (try (conv => rhs; simp only [Nf.all, Nat.reduceBEq, reduceAdd, reduceSub]))
  (refine zq ?_; refine AOps.box rfl rfl rfl rfl ?_; (conv => rhs; simp only [Nf.all, Nat.reduceBEq, reduceAdd, reduceSub]); refine AOps.allocN' rfl rfl rfl rfl ?_; (conv => rhs; simp only [Nf.all, Nat.reduceBEq, reduceAdd, reduceSub]); refine zd ?_; refine AW.scope ?_; refine zq ?_; refine AOps.fieldAddrN 33 1 2 rfl rfl rfl rfl ?_; refine zb ?_; refine zn ?_; refine za ?_; refine zd ?_; refine zo ?_; refine AW.label ?_; refine thenD_n ?_; refine zo ?_; refine zq ?_; (conv => rhs; simp only [Nf.all, Nat.reduceBEq, reduceAdd, reduceSub]); refine za ?_; refine zd ?_)
  refine AW.cutT (δc := { n := 66, env := [(1, .ptr 0 0), (2, .ptr 1 0)], objs := [(0, some (.box [.pv (ints at'), .any, .pv (stts (ss.take n)), litI l])), (1, some (.box [.any, .any, .any, .any]))], nx := 2 }) ?_ ?_
  · (refine AW.block ?_)
    refine AW.loop (S := Nat) (fun a => { n := 66, env := [(1, .ptr 0 0), (2, .ptr 1 0), (3, litI ss.length), (4, litI a)], objs := [(0, some (.box [.pv (ints at'), litI st, .pv (stts ss), litI lp])), (1, some (.box [.any, .any, .any, .any]))], nx := 2 })
      (fun a => 1 ≤ a ∧ a ≤ n ∧ ∀ a' j', a' < a → ¬ Rep T a' j') (fun a => n - a) 1 ?_ ?_ ?_
    · exact ⟨Nat.le_refl _, by omega, fun a' j' ha hr => by have := hr.1; omega⟩
    · exact weak rfl (by (refine ⟨.eq rfl rfl, ?_⟩; refine ⟨.eq rfl rfl, ?_⟩; (iterate 2 refine ⟨.intE (by first | with_reducible rfl | (rfl)), ?_⟩); exact trivial)) (by (refine ⟨.box _ rfl ?_, ?_⟩; refine ⟨.pvE (by first | with_reducible rfl | (rfl)), ?_⟩; refine ⟨.intE (by first | with_reducible rfl | (rfl)), ?_⟩; refine ⟨.pvE (by first | with_reducible rfl | (rfl)), ?_⟩; refine ⟨.intE (by first | with_reducible rfl | (rfl)), ?_⟩; exact trivial; refine ⟨.box _ rfl ?_, ?_⟩; (iterate 4 refine ⟨.any _, ?_⟩); (iterate 2 exact trivial))) rfl
    rintro a ⟨ha1, ha2, ha3⟩
    by_cases hak : a < ss.length
    · (refine zo ?_; refine zq ?_; (iterate 2 refine zm ?_); refine zs ?_; refine zd ?_; refine zc ?_; refine AW.skip ?_; refine thenD_n ?_; refine zo ?_; refine AW.block ?_; refine zq ?_; (conv => rhs; simp only [Nf.all, Nat.reduceBEq, reduceAdd, reduceSub]); refine zm ?_; refine AOps.sub rfl rfl rfl rfl rfl (by omega) ?_; refine za ?_; refine zd ?_; refine AW.block ?_)
      refine AW.loop (S := Nat) (fun j => { n := 66, env := [(1, .ptr 0 0), (2, .ptr 1 0), (3, litI ss.length), (4, litI a), (5, litI ((j : Int) - 1))], objs := [(0, some (.box [.pv (ints at'), litI st, .pv (stts ss), litI lp])), (1, some (.box [.any, .any, .any, .any]))], nx := 2 })
        (fun j => j ≤ a ∧ ∀ j', j ≤ j' → ¬ Rep T a j') (fun j => j) a ?_ ?_ ?_
      · exact ⟨Nat.le_refl _, fun j' hj hr => by have := hr.1; omega⟩
      · exact weak rfl (by (first | (refine ⟨.eq rfl rfl, ?_⟩; (iterate 4 refine ⟨.eq rfl rfl, ?_⟩); exact trivial) | (refine ⟨.eq rfl rfl, ?_⟩; (iterate 3 refine ⟨.eq rfl rfl, ?_⟩); exact trivial) | (refine ⟨.eq rfl rfl, ?_⟩; refine ⟨.eq rfl rfl, ?_⟩; exact trivial))) (by (first | (refine ⟨.box _ rfl ?_, ?_⟩; (iterate 4 refine ⟨.eq rfl rfl, ?_⟩); exact trivial; refine ⟨.box _ rfl ?_, ?_⟩; (iterate 4 refine ⟨.any _, ?_⟩); (iterate 2 exact trivial)) | (refine ⟨.box _ rfl ?_, ?_⟩; refine ⟨.eq rfl rfl, ?_⟩; refine ⟨.any _, ?_⟩; (iterate 2 refine ⟨.eq rfl rfl, ?_⟩); exact trivial; refine ⟨.box _ rfl ?_, ?_⟩; (iterate 4 refine ⟨.any _, ?_⟩); (iterate 2 exact trivial)))) rfl
      rintro j ⟨hj, hjn⟩
      by_cases hj0 : 0 < j
      · obtain ⟨i, rfl⟩ : ∃ i, j = i + 1 := ⟨j - 1, by omega⟩
        have ei : ((i + 1 : Nat) : Int) - 1 = (i : Int) := by omega
        rw [ei]
        obtain ⟨r, hsf, hsr⟩ := hst a i (by omega) hak
        cases r with
        | true =>
          obtain ⟨rfl, rfl⟩ := hun a i (hsr.1 rfl) ha2
          (refine zo ?_; refine zq ?_; refine zm ?_; refine AOps.geq rfl rfl rfl rfl rfl ?_; refine zd ?_; refine AW.cond_lt rfl rfl ?_; refine AW.skip ?_; refine thenD_n ?_; refine zo ?_; refine AW.block ?_; refine zo ?_)
          refine AW.regionE [0,1,2,3,4,5,6,7,8,9,10] [12] rfl (by assumption) (by kernel_rfl) rfl ?_
          show AOps .held _ _ _ [_, _, _, _, _, _, _, _, _, _, _] _ _
          (refine AOps.fieldAddrN 33 0 0 rfl rfl rfl rfl ?_; refine AOps.fieldAddrN 30 0 0 rfl rfl rfl rfl ?_; refine zb ?_; refine zm ?_; refine AOps.buildN 30 [0, 1] rfl rfl rfl rfl rfl rfl rfl rfl rfl ?_; (conv => rhs; simp only [Nf.all, Nat.reduceBEq, reduceAdd, reduceSub]); refine AOps.fieldAddrN 33 1 2 rfl rfl rfl rfl ?_; refine zb ?_; refine zm ?_; refine AOps.slice_to rfl rfl rfl rfl rfl rfl rfl (by omega) ?_; refine zm ?_; refine AOps.buildN 33 [0, 2, 3] rfl rfl rfl rfl rfl rfl rfl rfl rfl ?_; (conv => rhs; simp only [Nf.all, Nat.reduceBEq, reduceAdd, reduceSub]); refine AOps.nil ?_; refine onlyN_n ?_)
          intro k_ hk_
          (try (conv => rhs; simp only [Nf.all, Nat.reduceBEq, reduceAdd, reduceSub]))
          refine AR.step1 (i := 11) rfl (by kernel_rfl) rfl ?_
          intro g_ hgro_ hw_
          (refine AOps.allocN' rfl rfl rfl rfl ?_; (conv => rhs; simp only [Nf.all, Nat.reduceBEq, reduceAdd, reduceSub]); refine AOps.nil ?_; refine onlyN_n ?_)
          refine AR.step1L (i := 12) rfl (by kernel_rfl) rfl (by kernel_rfl) ?_
          intro g_ hgro_ hwt2_
          (refine AOps.store_bn rfl rfl rfl rfl rfl rfl rfl rfl rfl (by with_reducible assumption) ?_; (conv => rhs; simp only [Nf.all, Nat.reduceBEq, reduceAdd, reduceSub]); refine AOps.nil ?_; refine onlyN_n ?_)
          refine AR.done (by assumption) (by kernel_rfl) ?_
          (refine thenD_n ?_; refine zq ?_; refine AOps.load_ball rfl rfl rfl rfl rfl ?_; (conv => rhs; simp only [Nf.all, Nat.reduceBEq, reduceAdd, reduceSub]); refine AOps.load_ball rfl rfl rfl rfl rfl ?_; (conv => rhs; simp only [Nf.all, Nat.reduceBEq, reduceAdd, reduceSub]); refine AOps.call (hsf) (.cons rfl (.aggL (.cons (.pv _) (.cons (.pv _) (.cons (.pv _) (.cons (.pv _) .nil))))) (.cons rfl (.aggL (.cons (.pv _) (.cons (.pv _) (.cons (.pv _) (.cons (.pv _) .nil))))) .nil)) rfl rfl (fun h_ => by cases h_) ?_; refine zd ?_; refine AW.cond_lt rfl rfl ?_; refine zq ?_; (conv => rhs; simp only [Nf.all, Nat.reduceBEq, reduceAdd, reduceSub]); refine AOps.load_ball rfl rfl rfl rfl rfl ?_; (conv => rhs; simp only [Nf.all, Nat.reduceBEq, reduceAdd, reduceSub]); refine AOps.store_bn rfl rfl rfl rfl rfl rfl rfl rfl rfl (by with_reducible assumption) ?_; (conv => rhs; simp only [Nf.all, Nat.reduceBEq, reduceAdd, reduceSub]); refine zd ?_; refine AW.exit ?_; refine inBlockD_other rfl ?_; (iterate 2 refine thenD_exit ?_); (iterate 2 refine inBlockD_other rfl ?_); (iterate 2 refine thenD_exit ?_); refine inBlockD_exit ?_; refine onlyN_n ?_)
          exact weak rfl (by (first | (refine ⟨.eq rfl rfl, ?_⟩; (iterate 4 refine ⟨.eq rfl rfl, ?_⟩); exact trivial) | (refine ⟨.eq rfl rfl, ?_⟩; (iterate 3 refine ⟨.eq rfl rfl, ?_⟩); exact trivial) | (refine ⟨.eq rfl rfl, ?_⟩; refine ⟨.eq rfl rfl, ?_⟩; exact trivial))) (by (first | (refine ⟨.box _ rfl ?_, ?_⟩; (iterate 4 refine ⟨.eq rfl rfl, ?_⟩); exact trivial; refine ⟨.box _ rfl ?_, ?_⟩; (iterate 4 refine ⟨.any _, ?_⟩); (iterate 2 exact trivial)) | (refine ⟨.box _ rfl ?_, ?_⟩; refine ⟨.eq rfl rfl, ?_⟩; refine ⟨.any _, ?_⟩; (iterate 2 refine ⟨.eq rfl rfl, ?_⟩); exact trivial; refine ⟨.box _ rfl ?_, ?_⟩; (iterate 4 refine ⟨.any _, ?_⟩); (iterate 2 exact trivial)))) rfl
        | false =>
          have hno : ¬ Rep T a i := fun h => by simpa using hsr.2 h
          (refine zo ?_; refine zq ?_; refine zm ?_; refine AOps.geq rfl rfl rfl rfl rfl ?_; refine zd ?_; refine AW.cond_lt rfl rfl ?_; refine AW.skip ?_; refine thenD_n ?_; refine zo ?_; refine AW.block ?_; refine zo ?_)
          refine AW.regionE [0,1,2,3,4,5,6,7,8,9,10] [12] rfl (by assumption) (by kernel_rfl) rfl ?_
          show AOps .held _ _ _ [_, _, _, _, _, _, _, _, _, _, _] _ _
          (refine AOps.fieldAddrN 33 0 0 rfl rfl rfl rfl ?_; refine AOps.fieldAddrN 30 0 0 rfl rfl rfl rfl ?_; refine zb ?_; refine zm ?_; refine AOps.buildN 30 [0, 1] rfl rfl rfl rfl rfl rfl rfl rfl rfl ?_; (conv => rhs; simp only [Nf.all, Nat.reduceBEq, reduceAdd, reduceSub]); refine AOps.fieldAddrN 33 1 2 rfl rfl rfl rfl ?_; refine zb ?_; refine zm ?_; refine AOps.slice_to rfl rfl rfl rfl rfl rfl rfl (by omega) ?_; refine zm ?_; refine AOps.buildN 33 [0, 2, 3] rfl rfl rfl rfl rfl rfl rfl rfl rfl ?_; (conv => rhs; simp only [Nf.all, Nat.reduceBEq, reduceAdd, reduceSub]); refine AOps.nil ?_; refine onlyN_n ?_)
          intro k_ hk_
          (try (conv => rhs; simp only [Nf.all, Nat.reduceBEq, reduceAdd, reduceSub]))
          refine AR.step1 (i := 11) rfl (by kernel_rfl) rfl ?_
          intro g_ hgro_ hw_
          (refine AOps.allocN' rfl rfl rfl rfl ?_; (conv => rhs; simp only [Nf.all, Nat.reduceBEq, reduceAdd, reduceSub]); refine AOps.nil ?_; refine onlyN_n ?_)
          refine AR.step1L (i := 12) rfl (by kernel_rfl) rfl (by kernel_rfl) ?_
          intro g_ hgro_ hwt2_
          (refine AOps.store_bn rfl rfl rfl rfl rfl rfl rfl rfl rfl (by with_reducible assumption) ?_; (conv => rhs; simp only [Nf.all, Nat.reduceBEq, reduceAdd, reduceSub]); refine AOps.nil ?_; refine onlyN_n ?_)
          refine AR.done (by assumption) (by kernel_rfl) ?_
          (refine thenD_n ?_; refine zq ?_; refine AOps.load_ball rfl rfl rfl rfl rfl ?_; (conv => rhs; simp only [Nf.all, Nat.reduceBEq, reduceAdd, reduceSub]); refine AOps.load_ball rfl rfl rfl rfl rfl ?_; (conv => rhs; simp only [Nf.all, Nat.reduceBEq, reduceAdd, reduceSub]); refine AOps.call (hsf) (.cons rfl (.aggL (.cons (.pv _) (.cons (.pv _) (.cons (.pv _) (.cons (.pv _) .nil))))) (.cons rfl (.aggL (.cons (.pv _) (.cons (.pv _) (.cons (.pv _) (.cons (.pv _) .nil))))) .nil)) rfl rfl (fun h_ => by cases h_) ?_; refine zd ?_; refine AW.cond_lf rfl rfl ?_; refine AW.skip ?_; refine inBlockD_n ?_; refine thenD_n ?_; refine AW.region ?_; (conv => rhs; simp only [Nf.all, Nat.reduceBEq, reduceAdd, reduceSub]); refine zm ?_; refine AOps.sub rfl rfl rfl rfl rfl (by omega) ?_; refine za ?_; refine zd ?_)
          exact ⟨i, ⟨by omega, fun j' hj' hr => by rcases Nat.lt_or_eq_of_le hj' with h | rfl; exact hjn j' h hr; exact hno hr⟩, by omega, weak rfl (by (first | (refine ⟨.eq rfl rfl, ?_⟩; (iterate 4 refine ⟨.eq rfl rfl, ?_⟩); exact trivial) | (refine ⟨.eq rfl rfl, ?_⟩; (iterate 3 refine ⟨.eq rfl rfl, ?_⟩); exact trivial) | (refine ⟨.eq rfl rfl, ?_⟩; refine ⟨.eq rfl rfl, ?_⟩; exact trivial))) (by (first | (refine ⟨.box _ rfl ?_, ?_⟩; (iterate 4 refine ⟨.eq rfl rfl, ?_⟩); exact trivial; refine ⟨.box _ rfl ?_, ?_⟩; (iterate 4 refine ⟨.any _, ?_⟩); (iterate 2 exact trivial)) | (refine ⟨.box _ rfl ?_, ?_⟩; refine ⟨.eq rfl rfl, ?_⟩; refine ⟨.any _, ?_⟩; (iterate 2 refine ⟨.eq rfl rfl, ?_⟩); exact trivial; refine ⟨.box _ rfl ?_, ?_⟩; (iterate 4 refine ⟨.any _, ?_⟩); (iterate 2 exact trivial)))) rfl⟩
      · obtain rfl : j = 0 := by omega
        have hal : a < n := by
          rcases Nat.lt_or_eq_of_le ha2 with h | rfl
          · exact h
          · exact absurd hrep (hjn l (Nat.zero_le _))
        (refine zo ?_; refine zq ?_; refine zm ?_; refine AOps.geq rfl rfl rfl rfl rfl ?_; refine zd ?_; refine AW.cond_lf rfl rfl ?_; refine AW.exit ?_; (iterate 2 refine thenD_exit ?_); refine inBlockD_exit ?_; refine inBlockD_n ?_; refine thenD_n ?_; refine AW.region ?_; (conv => rhs; simp only [Nf.all, Nat.reduceBEq, reduceAdd, reduceSub]); refine zm ?_; refine AOps.add rfl rfl rfl rfl rfl (by omega) ?_; refine za ?_; refine zd ?_)
        exact ⟨a + 1, ⟨by omega, by omega, fun a' j' ha' hr => by rcases Nat.lt_or_eq_of_le (Nat.le_of_lt_succ ha') with h | rfl; exact ha3 a' j' h hr; exact hjn j' (Nat.zero_le _) hr⟩, by omega, weak rfl (by (first | (refine ⟨.eq rfl rfl, ?_⟩; (iterate 4 refine ⟨.eq rfl rfl, ?_⟩); exact trivial) | (refine ⟨.eq rfl rfl, ?_⟩; (iterate 3 refine ⟨.eq rfl rfl, ?_⟩); exact trivial) | (refine ⟨.eq rfl rfl, ?_⟩; refine ⟨.eq rfl rfl, ?_⟩; exact trivial))) (by (first | (refine ⟨.box _ rfl ?_, ?_⟩; (iterate 4 refine ⟨.eq rfl rfl, ?_⟩); exact trivial; refine ⟨.box _ rfl ?_, ?_⟩; (iterate 4 refine ⟨.any _, ?_⟩); (iterate 2 exact trivial)) | (refine ⟨.box _ rfl ?_, ?_⟩; refine ⟨.eq rfl rfl, ?_⟩; refine ⟨.any _, ?_⟩; (iterate 2 refine ⟨.eq rfl rfl, ?_⟩); exact trivial; refine ⟨.box _ rfl ?_, ?_⟩; (iterate 4 refine ⟨.any _, ?_⟩); (iterate 2 exact trivial)))) rfl⟩
    · have hae : n = ss.length := by omega
      have hul := hun ss.length lp.toNat hself (by omega)
      have hll : lp = (l : Int) := by omega
      have htk : ss.take n = ss := List.take_of_length_le (by omega)
      rw [htk]
      (refine zo ?_; refine zq ?_; (iterate 2 refine zm ?_); refine zs ?_; refine zd ?_; refine zk ?_; refine AW.exit ?_; (iterate 2 refine thenD_exit ?_); refine inBlockD_exit ?_; refine onlyN_n ?_)
      exact weak rfl (by (refine ⟨.eq rfl rfl, ?_⟩; refine ⟨.eq rfl rfl, ?_⟩; exact trivial)) (by (refine ⟨.box _ rfl ?_, ?_⟩; refine ⟨.pvE (by first | with_reducible rfl | (first | rfl | exact hll)), ?_⟩; refine ⟨.any _, ?_⟩; refine ⟨.pvE (by first | with_reducible rfl | (first | rfl | exact hll)), ?_⟩; refine ⟨.intE (by first | with_reducible rfl | (first | rfl | exact hll)), ?_⟩; exact trivial; refine ⟨.box _ rfl ?_, ?_⟩; (iterate 4 refine ⟨.any _, ?_⟩); (iterate 2 exact trivial))) rfl
  · have hsl : (ss.take n).length = n := by simp; omega
    generalize ss.take n = sn at hsm hsl ⊢
    refine zo ?_
    refine AW.cutT (δc := { n := 66, env := [(1, .ptr 0 0), (2, .ptr 1 0), (7, .ptr 2 0)], objs := [(0, some (.box [.pv (ints at'), .any, .pv (stts sn), litI l])), (1, some (.box [.any, .any, .any, .any])), (2, some (.box [.pv (ints at'), litI sn.length, .pv (.lit (.slice none 0 0)), litI l]))], nx := 3 }) ?_ ?_
    · refine AW.regionE [0,1,2,4,5,6,8,9] [12] rfl (by assumption) (by kernel_rfl) rfl ?_
      show AOps .held _ _ _ [_, _, _, _, _, _, _, _] _ _
      (refine AOps.fieldAddrN 33 0 0 rfl rfl rfl rfl ?_; refine AOps.fieldAddrN 30 0 0 rfl rfl rfl rfl ?_; refine zb ?_; refine AOps.fieldAddrN 33 1 2 rfl rfl rfl rfl ?_; refine zb ?_; refine zn ?_; refine AOps.fieldAddrN 33 2 3 rfl rfl rfl rfl ?_; refine zb ?_; refine AOps.nil ?_; refine onlyN_n ?_)
      intro k_ hk_
      (try (conv => rhs; simp only [Nf.all, Nat.reduceBEq, reduceAdd, reduceSub]))
      refine AR.step2 (i := 3) (j := 11) rfl (by kernel_rfl) rfl rfl ?_ ?_ <;> intro g_ hgro_ hw_
      · (refine AOps.callp (hcl) (.cons rfl (.pv _) .nil) rfl ?_; refine AOps.nil ?_; refine onlyN_n ?_)
        refine AR.step2 (i := 7) (j := 11) rfl (by kernel_rfl) rfl rfl ?_ ?_ <;> intro g_ hgro_ hw_
        · (refine AOps.buildN 30 [0, 1] rfl rfl rfl rfl rfl rfl rfl rfl rfl ?_; (conv => rhs; simp only [Nf.all, Nat.reduceBEq, reduceAdd, reduceSub]); refine AOps.nil ?_; refine onlyN_n ?_)
          refine AR.step2 (i := 10) (j := 11) rfl (by kernel_rfl) rfl rfl ?_ ?_ <;> intro g_ hgro_ hw_
          · (refine AOps.buildN 33 [0, 3] rfl rfl rfl rfl rfl rfl rfl rfl rfl ?_; (conv => rhs; simp only [Nf.all, Nat.reduceBEq, reduceAdd, reduceSub]); refine AOps.nil ?_; refine onlyN_n ?_)
            refine AR.step1 (i := 11) rfl (by kernel_rfl) rfl ?_
            intro g_ hgro_ hw_
            (refine AOps.allocN' rfl rfl rfl rfl ?_; (conv => rhs; simp only [Nf.all, Nat.reduceBEq, reduceAdd, reduceSub]); refine AOps.nil ?_; refine onlyN_n ?_)
            refine AR.step1L (i := 12) rfl (by kernel_rfl) rfl (by kernel_rfl) ?_
            intro g_ hgro_ hwt2_
            (refine AOps.store_bn rfl rfl rfl rfl rfl rfl rfl rfl rfl (by with_reducible assumption) ?_; (conv => rhs; simp only [Nf.all, Nat.reduceBEq, reduceAdd, reduceSub]); refine AOps.nil ?_; refine onlyN_n ?_)
            refine AR.done (by assumption) (by kernel_rfl) ?_
            show Weak _ _ _
            exact weak rfl (by (refine ⟨.eq rfl rfl, ?_⟩; (iterate 2 refine ⟨.eq rfl rfl, ?_⟩); exact trivial)) (by (refine ⟨.box _ rfl ?_, ?_⟩; refine ⟨.pvE (by first | with_reducible rfl | (first | rfl | (rw [hsl]; rfl))), ?_⟩; refine ⟨.any _, ?_⟩; refine ⟨.pvE (by first | with_reducible rfl | (first | rfl | (rw [hsl]; rfl))), ?_⟩; refine ⟨.intE (by first | with_reducible rfl | (first | rfl | (rw [hsl]; rfl))), ?_⟩; exact trivial; refine ⟨.box _ rfl ?_, ?_⟩; (iterate 4 refine ⟨.any _, ?_⟩); exact trivial; refine ⟨.box _ rfl ?_, ?_⟩; refine ⟨.pvE (by first | with_reducible rfl | (first | rfl | (rw [hsl]; rfl))), ?_⟩; refine ⟨.intE (by first | with_reducible rfl | (first | rfl | (rw [hsl]; rfl))), ?_⟩; refine ⟨.eq rfl rfl, ?_⟩; refine ⟨.intE (by first | with_reducible rfl | (first | rfl | (rw [hsl]; rfl))), ?_⟩; (iterate 2 exact trivial))) rfl
          · (refine AOps.allocN' rfl rfl rfl rfl ?_; (conv => rhs; simp only [Nf.all, Nat.reduceBEq, reduceAdd, reduceSub]); refine AOps.nil ?_; refine onlyN_n ?_)
            refine AR.step1 (i := 10) rfl (by kernel_rfl) rfl ?_
            intro g_ hgro_ hw_
            (refine AOps.buildN 33 [0, 3] rfl rfl rfl rfl rfl rfl rfl rfl rfl ?_; (conv => rhs; simp only [Nf.all, Nat.reduceBEq, reduceAdd, reduceSub]); refine AOps.nil ?_; refine onlyN_n ?_)
            refine AR.step1L (i := 12) rfl (by kernel_rfl) rfl (by kernel_rfl) ?_
            intro g_ hgro_ hwt2_
            (refine AOps.store_bn rfl rfl rfl rfl rfl rfl rfl rfl rfl (by with_reducible assumption) ?_; (conv => rhs; simp only [Nf.all, Nat.reduceBEq, reduceAdd, reduceSub]); refine AOps.nil ?_; refine onlyN_n ?_)
            refine AR.done (by assumption) (by kernel_rfl) ?_
            show Weak _ _ _
            exact weak rfl (by (refine ⟨.eq rfl rfl, ?_⟩; (iterate 2 refine ⟨.eq rfl rfl, ?_⟩); exact trivial)) (by (refine ⟨.box _ rfl ?_, ?_⟩; refine ⟨.pvE (by first | with_reducible rfl | (first | rfl | (rw [hsl]; rfl))), ?_⟩; refine ⟨.any _, ?_⟩; refine ⟨.pvE (by first | with_reducible rfl | (first | rfl | (rw [hsl]; rfl))), ?_⟩; refine ⟨.intE (by first | with_reducible rfl | (first | rfl | (rw [hsl]; rfl))), ?_⟩; exact trivial; refine ⟨.box _ rfl ?_, ?_⟩; (iterate 4 refine ⟨.any _, ?_⟩); exact trivial; refine ⟨.box _ rfl ?_, ?_⟩; refine ⟨.pvE (by first | with_reducible rfl | (first | rfl | (rw [hsl]; rfl))), ?_⟩; refine ⟨.intE (by first | with_reducible rfl | (first | rfl | (rw [hsl]; rfl))), ?_⟩; refine ⟨.eq rfl rfl, ?_⟩; refine ⟨.intE (by first | with_reducible rfl | (first | rfl | (rw [hsl]; rfl))), ?_⟩; (iterate 2 exact trivial))) rfl
        · (refine AOps.allocN' rfl rfl rfl rfl ?_; (conv => rhs; simp only [Nf.all, Nat.reduceBEq, reduceAdd, reduceSub]); refine AOps.nil ?_; refine onlyN_n ?_)
          refine AR.step1 (i := 7) rfl (by kernel_rfl) rfl ?_
          intro g_ hgro_ hw_
          (refine AOps.buildN 30 [0, 1] rfl rfl rfl rfl rfl rfl rfl rfl rfl ?_; (conv => rhs; simp only [Nf.all, Nat.reduceBEq, reduceAdd, reduceSub]); refine AOps.nil ?_; refine onlyN_n ?_)
          refine AR.step1 (i := 10) rfl (by kernel_rfl) rfl ?_
          intro g_ hgro_ hw_
          (refine AOps.buildN 33 [0, 3] rfl rfl rfl rfl rfl rfl rfl rfl rfl ?_; (conv => rhs; simp only [Nf.all, Nat.reduceBEq, reduceAdd, reduceSub]); refine AOps.nil ?_; refine onlyN_n ?_)
          refine AR.step1L (i := 12) rfl (by kernel_rfl) rfl (by kernel_rfl) ?_
          intro g_ hgro_ hwt2_
          (refine AOps.store_bn rfl rfl rfl rfl rfl rfl rfl rfl rfl (by with_reducible assumption) ?_; (conv => rhs; simp only [Nf.all, Nat.reduceBEq, reduceAdd, reduceSub]); refine AOps.nil ?_; refine onlyN_n ?_)
          refine AR.done (by assumption) (by kernel_rfl) ?_
          show Weak _ _ _
          exact weak rfl (by (refine ⟨.eq rfl rfl, ?_⟩; (iterate 2 refine ⟨.eq rfl rfl, ?_⟩); exact trivial)) (by (refine ⟨.box _ rfl ?_, ?_⟩; refine ⟨.pvE (by first | with_reducible rfl | (first | rfl | (rw [hsl]; rfl))), ?_⟩; refine ⟨.any _, ?_⟩; refine ⟨.pvE (by first | with_reducible rfl | (first | rfl | (rw [hsl]; rfl))), ?_⟩; refine ⟨.intE (by first | with_reducible rfl | (first | rfl | (rw [hsl]; rfl))), ?_⟩; exact trivial; refine ⟨.box _ rfl ?_, ?_⟩; (iterate 4 refine ⟨.any _, ?_⟩); exact trivial; refine ⟨.box _ rfl ?_, ?_⟩; refine ⟨.pvE (by first | with_reducible rfl | (first | rfl | (rw [hsl]; rfl))), ?_⟩; refine ⟨.intE (by first | with_reducible rfl | (first | rfl | (rw [hsl]; rfl))), ?_⟩; refine ⟨.eq rfl rfl, ?_⟩; refine ⟨.intE (by first | with_reducible rfl | (first | rfl | (rw [hsl]; rfl))), ?_⟩; (iterate 2 exact trivial))) rfl
      · (refine AOps.allocN' rfl rfl rfl rfl ?_; (conv => rhs; simp only [Nf.all, Nat.reduceBEq, reduceAdd, reduceSub]); refine AOps.nil ?_; refine onlyN_n ?_)
        refine AR.step1 (i := 3) rfl (by kernel_rfl) rfl ?_
        intro g_ hgro_ hw_
        
        (refine AOps.callp (hcl) (.cons rfl (.pv _) .nil) rfl ?_; refine AOps.nil ?_; refine onlyN_n ?_)
        refine AR.step1 (i := 7) rfl (by kernel_rfl) rfl ?_
        intro g_ hgro_ hw_
        (refine AOps.buildN 30 [0, 1] rfl rfl rfl rfl rfl rfl rfl rfl rfl ?_; (conv => rhs; simp only [Nf.all, Nat.reduceBEq, reduceAdd, reduceSub]); refine AOps.nil ?_; refine onlyN_n ?_)
        refine AR.step1 (i := 10) rfl (by kernel_rfl) rfl ?_
        intro g_ hgro_ hw_
        (refine AOps.buildN 33 [0, 3] rfl rfl rfl rfl rfl rfl rfl rfl rfl ?_; (conv => rhs; simp only [Nf.all, Nat.reduceBEq, reduceAdd, reduceSub]); refine AOps.nil ?_; refine onlyN_n ?_)
        refine AR.step1L (i := 12) rfl (by kernel_rfl) rfl (by kernel_rfl) ?_
        intro g_ hgro_ hwt2_
        (refine AOps.store_bn rfl rfl rfl rfl rfl rfl rfl rfl rfl (by with_reducible assumption) ?_; (conv => rhs; simp only [Nf.all, Nat.reduceBEq, reduceAdd, reduceSub]); refine AOps.nil ?_; refine onlyN_n ?_)
        refine AR.done (by assumption) (by kernel_rfl) ?_
        show Weak _ _ _
        exact weak rfl (by (refine ⟨.eq rfl rfl, ?_⟩; (iterate 2 refine ⟨.eq rfl rfl, ?_⟩); exact trivial)) (by (refine ⟨.box _ rfl ?_, ?_⟩; refine ⟨.pvE (by first | with_reducible rfl | (first | rfl | (rw [hsl]; rfl))), ?_⟩; refine ⟨.any _, ?_⟩; refine ⟨.pvE (by first | with_reducible rfl | (first | rfl | (rw [hsl]; rfl))), ?_⟩; refine ⟨.intE (by first | with_reducible rfl | (first | rfl | (rw [hsl]; rfl))), ?_⟩; exact trivial; refine ⟨.box _ rfl ?_, ?_⟩; (iterate 4 refine ⟨.any _, ?_⟩); exact trivial; refine ⟨.box _ rfl ?_, ?_⟩; refine ⟨.pvE (by first | with_reducible rfl | (first | rfl | (rw [hsl]; rfl))), ?_⟩; refine ⟨.intE (by first | with_reducible rfl | (first | rfl | (rw [hsl]; rfl))), ?_⟩; refine ⟨.eq rfl rfl, ?_⟩; refine ⟨.intE (by first | with_reducible rfl | (first | rfl | (rw [hsl]; rfl))), ?_⟩; (iterate 2 exact trivial))) rfl
    · (refine zo ?_; refine zq ?_; refine AOps.fieldAddrN 33 1 2 rfl rfl rfl rfl ?_; refine zb ?_; refine zn ?_; refine zm ?_; refine zd ?_; refine AW.block ?_)
      refine AW.loop (S := Nat) (fun k => { n := 66, env := [(2, .ptr 1 0), (7, .ptr 2 0), (51, .pv (stts sn)), (52, litI sn.length), (53, litI k)], objs := [(1, some (.box [.any, .any, .any, .any])), (2, some (.box [.pv (ints at'), litI sn.length, .own 3 36 1 ((sn.take k).map fun s => [rels s]), litI l])), (3, some .row)], nx := 4 })
        (fun k => k ≤ sn.length) (fun k => sn.length - k) 0 ?_ ?_ ?_
      · exact Nat.zero_le _
      · exact weak rfl (by (refine ⟨.eq rfl rfl, ?_⟩; refine ⟨.eq rfl rfl, ?_⟩; refine ⟨.pvE (by first | with_reducible rfl | (simp)), ?_⟩; (iterate 2 refine ⟨.intE (by first | with_reducible rfl | (simp)), ?_⟩); exact trivial)) (by (refine ⟨.box _ rfl ?_, ?_⟩; (iterate 4 refine ⟨.any _, ?_⟩); exact trivial; refine ⟨.box _ rfl ?_, ?_⟩; refine ⟨.pvE (by first | with_reducible rfl | (simp)), ?_⟩; refine ⟨.intE (by first | with_reducible rfl | (simp)), ?_⟩; refine ⟨.nilown _ _ _ rfl rfl, ?_⟩; refine ⟨.intE (by first | with_reducible rfl | (simp)), ?_⟩; exact trivial; refine ⟨.newrow rfl, ?_⟩; exact trivial)) rfl
      rintro k hk
      by_cases hkl : k < sn.length
      · have hcf := copied_fn sn[k] (hsm _ (List.getElem_mem hkl))
        have hts := take_succ_get hkl
        have htl := List.length_take_le k sn
        (refine zq ?_; refine zs ?_; refine zd ?_; refine zo ?_; refine zc ?_; refine AW.skip ?_; refine thenD_n ?_; refine zo ?_; refine AW.block ?_; refine zq ?_; (conv => rhs; simp only [Nf.all, Nat.reduceBEq, reduceAdd, reduceSub]); (focus ((with_reducible apply AOps.index_map); (iterate 7 exact rfl); rotate_left; omega)); refine zr ?_; refine za ?_; refine zd ?_)
        refine AW.regionE [0,1,2] [7] rfl (by assumption) (by kernel_rfl) rfl ?_
        show AOps .held _ _ _ [_, _, _] _ _
        (refine AOps.fieldAddrN 33 1 2 rfl rfl rfl rfl ?_; refine zb ?_; refine zm ?_; refine AOps.nil ?_; refine onlyN_n ?_)
        intro k_ hk_
        (try (conv => rhs; simp only [Nf.all, Nat.reduceBEq, reduceAdd, reduceSub]))
        refine AR.step1 (i := 3) rfl (by kernel_rfl) rfl ?_
        intro g_ hgro_ hw_
        
        (refine AOps.callp (hcf) (.cons rfl (.pv _) .nil) rfl ?_; refine AOps.nil ?_; refine onlyN_n ?_)
        refine AR.step1 (i := 4) rfl (by kernel_rfl) rfl ?_
        intro g_ hgro_ hw_
        (refine AOps.bs1 rfl rfl rfl rfl rfl rfl rfl rfl ?_; (conv => rhs; simp only [Nf.all, Nat.reduceBEq, reduceAdd, reduceSub]); refine AOps.nil ?_; refine onlyN_n ?_)
        refine AR.step1 (i := 5) rfl (by kernel_rfl) rfl ?_
        intro g_ hgro_ hw_
        ((with_reducible apply AOps.appendS); exact rfl; (first | exact .pv rfl | exact .own rfl | exact .nil rfl); (iterate 9 exact rfl); (first | omega | (simp only [List.length_map, List.length_append, List.length_cons, List.length_nil, List.length_drop, List.length_take, chunk_len]; omega)); (conv => rhs; simp only [Nf.all, Nat.reduceBEq, reduceAdd, reduceSub]); refine AOps.nil ?_; refine onlyN_n ?_)
        refine AR.step1 (i := 6) rfl (by kernel_rfl) rfl ?_
        intro g_ hgro_ hw_
        (refine AOps.fieldAddrN 33 1 2 rfl rfl rfl rfl ?_; refine AOps.nil ?_; refine onlyN_n ?_)
        refine AR.step1L (i := 7) rfl (by kernel_rfl) rfl (by kernel_rfl) ?_
        intro g_ hgro_ hwt2_
        (refine AOps.store_b1 rfl rfl rfl rfl rfl rfl rfl rfl rfl (by with_reducible assumption) ?_; (conv => rhs; simp only [Nf.all, Nat.reduceBEq, reduceAdd, reduceSub]); refine AOps.nil ?_; refine onlyN_n ?_)
        refine AR.done (by assumption) (by kernel_rfl) ?_
        (refine inBlockD_n ?_; refine thenD_n ?_; refine AW.region ?_; refine AOps.add rfl rfl rfl rfl rfl (by omega) ?_; refine zm ?_; refine zd ?_)
        exact ⟨k + 1, by omega, by omega, weak rfl (by (refine ⟨.eq rfl rfl, ?_⟩; refine ⟨.eq rfl rfl, ?_⟩; refine ⟨.pvE (by first | with_reducible rfl | (first | (rw [hts, List.map_append]; rfl))), ?_⟩; refine ⟨.intE (by first | with_reducible rfl | (first | (rw [hts, List.map_append]; rfl))), ?_⟩; refine ⟨.eq rfl rfl, ?_⟩; exact trivial)) (by (refine ⟨.box _ rfl ?_, ?_⟩; (iterate 4 refine ⟨.any _, ?_⟩); exact trivial; refine ⟨.box _ rfl ?_, ?_⟩; refine ⟨.pvE (by first | with_reducible rfl | (first | (rw [hts, List.map_append]; rfl))), ?_⟩; refine ⟨.intE (by first | with_reducible rfl | (first | (rw [hts, List.map_append]; rfl))), ?_⟩; refine ⟨.ownE (by first | with_reducible rfl | (first | (rw [hts, List.map_append]; rfl))) rfl, ?_⟩; refine ⟨.intE (by first | with_reducible rfl | (first | (rw [hts, List.map_append]; rfl))), ?_⟩; exact trivial; refine ⟨.row rfl, ?_⟩; exact trivial)) rfl⟩
      · rw [take_all (l := sn) (by omega)]
        (refine zq ?_; refine zs ?_; refine zd ?_; refine zo ?_; refine zk ?_; refine AW.exit ?_; (iterate 2 refine thenD_exit ?_); refine inBlockD_exit ?_; refine thenD_n ?_; refine zq ?_; (conv => rhs; simp only [Nf.all, Nat.reduceBEq, reduceAdd, reduceSub]); refine AOps.load_ball rfl rfl rfl rfl rfl ?_; (conv => rhs; simp only [Nf.all, Nat.reduceBEq, reduceAdd, reduceSub]); refine AOps.store_bn rfl rfl rfl rfl rfl rfl rfl rfl rfl (by with_reducible assumption) ?_; (conv => rhs; simp only [Nf.all, Nat.reduceBEq, reduceAdd, reduceSub]); refine zd ?_; refine AW.ret ?_; refine noGotoD_ret ?_)
        (apply ends_ret; (exact Res.one (.cell rfl rfl rfl rfl)); (refine Le.aggL ?_; refine LeL.cons ?_ ?_; (with_reducible exact Le.pv _); refine LeL.cons ?_ ?_; refine Le.litI ?_; (first | rfl | (rw [hsl]) | simp); refine LeL.cons ?_ ?_; exact Le.own _ _ _ _ rfl; refine LeL.cons ?_ ?_; (with_reducible exact Le.pv _); exact LeL.nil))
end Go.Ab
