/- Chapter 07: the laws' head is true. -/
import Derived.Test.YtkejholhdmppmaaAkQ
import Derived.Test.YtkejholhdmppmaaAbL2
import Derived.Test.YtkejholhdmppmaaAbL3
set_option linter.unusedSimpArgs false
set_option linter.unusedVariables false
namespace Go.Ab
open Go Go.Proofs
open Nat (reduceAdd reduceSub)
set_option maxRecDepth 100000
set_option maxHeartbeats 64000000
attribute [local irreducible] AW AOps thenD inBlockD AR iterEnds roundEndsN inlEnds noGotoD
theorem head_fn : Fn Try.prog 4 [] (litB true) := by
  have trA := trace_fn 2 [0, 1, 0, 1] (by decide)
  have trB := trace_fn 0 [0, 1] (by decide)
  have trC := trace_fn 1 [0, 1, 1] (by decide)
  have trH4 := trace_fn 4 [0, 1, 0, 1] (by decide)
  have trH0 := trace_fn 0 [3] (by decide)
  have trH1 := trace_fn 1 [2, 2] (by decide)
  have trH01 := trace_fn 1 [0, 1] (by decide)
  refine Fn.enter (n := 121) Try.func4 rfl rfl rfl rfl rfl (by decide) fun g hro_ hwt_ => ?_; (try (conv => rhs; simp only [Nf.all, Nat.reduceBEq, reduceAdd, reduceSub]))
  (refine zq ?_; refine za ?_; refine zd ?_; refine zq ?_; (conv => rhs; simp only [Nf.all, Nat.reduceBEq, reduceAdd, reduceSub]); refine AOps.buildN 47 [0] rfl rfl rfl rfl rfl rfl rfl rfl rfl ?_; (conv => rhs; simp only [Nf.all, Nat.reduceBEq, reduceAdd, reduceSub]); refine AOps.bs1a2 rfl rfl rfl rfl rfl rfl rfl rfl rfl ?_; (conv => rhs; simp only [Nf.all, Nat.reduceBEq, reduceAdd, reduceSub]); refine AOps.bs1 rfl rfl rfl rfl rfl rfl rfl rfl ?_; (conv => rhs; simp only [Nf.all, Nat.reduceBEq, reduceAdd, reduceSub]); refine AOps.buildN 40 [0, 1, 2] rfl rfl rfl rfl rfl rfl rfl rfl rfl ?_; (conv => rhs; simp only [Nf.all, Nat.reduceBEq, reduceAdd, reduceSub]); refine AOps.frzB rfl rfl ?_; (conv => rhs; simp only [Nf.all, Nat.reduceBEq, reduceAdd, reduceSub]); refine AOps.bs1a3 rfl rfl rfl rfl rfl rfl rfl rfl rfl rfl ?_; (conv => rhs; simp only [Nf.all, Nat.reduceBEq, reduceAdd, reduceSub]); refine AOps.buildN 27 [0, 1] rfl rfl rfl rfl rfl rfl rfl rfl rfl ?_; (conv => rhs; simp only [Nf.all, Nat.reduceBEq, reduceAdd, reduceSub]); refine AOps.allocN' rfl rfl rfl rfl ?_; (conv => rhs; simp only [Nf.all, Nat.reduceBEq, reduceAdd, reduceSub]); refine AOps.store_bn rfl rfl rfl rfl rfl rfl rfl rfl rfl (by with_reducible assumption) ?_; (conv => rhs; simp only [Nf.all, Nat.reduceBEq, reduceAdd, reduceSub]); refine zd ?_; refine zq ?_; refine AOps.bs4 rfl rfl rfl rfl rfl rfl rfl rfl rfl rfl rfl rfl rfl rfl rfl rfl rfl ?_; (conv => rhs; simp only [Nf.all, Nat.reduceBEq, reduceAdd, reduceSub]); refine AOps.frzC rfl rfl ?_; (conv => rhs; simp only [Nf.all, Nat.reduceBEq, reduceAdd, reduceSub]); refine AOps.callp (trA) (.cons rfl (.pv _) (.cons rfl (.pv _) .nil)) rfl ?_; refine AOps.allocN' rfl rfl rfl rfl ?_; (conv => rhs; simp only [Nf.all, Nat.reduceBEq, reduceAdd, reduceSub]); refine AOps.store_bn rfl rfl rfl rfl rfl rfl rfl rfl rfl (by with_reducible assumption) ?_; (conv => rhs; simp only [Nf.all, Nat.reduceBEq, reduceAdd, reduceSub]); refine zd ?_; refine zq ?_; refine AOps.bs2 rfl rfl rfl rfl rfl rfl rfl rfl rfl rfl rfl ?_; (conv => rhs; simp only [Nf.all, Nat.reduceBEq, reduceAdd, reduceSub]); refine AOps.frzC rfl rfl ?_; (conv => rhs; simp only [Nf.all, Nat.reduceBEq, reduceAdd, reduceSub]); refine AOps.callp (trB) (.cons rfl (.pv _) (.cons rfl (.pv _) .nil)) rfl ?_; refine AOps.allocN' rfl rfl rfl rfl ?_; (conv => rhs; simp only [Nf.all, Nat.reduceBEq, reduceAdd, reduceSub]); refine AOps.store_bn rfl rfl rfl rfl rfl rfl rfl rfl rfl (by with_reducible assumption) ?_; (conv => rhs; simp only [Nf.all, Nat.reduceBEq, reduceAdd, reduceSub]); refine zd ?_; refine zq ?_; refine AOps.bs3 rfl rfl rfl rfl rfl rfl rfl rfl rfl rfl rfl rfl rfl rfl ?_; (conv => rhs; simp only [Nf.all, Nat.reduceBEq, reduceAdd, reduceSub]); refine AOps.frzC rfl rfl ?_; (conv => rhs; simp only [Nf.all, Nat.reduceBEq, reduceAdd, reduceSub]); refine AOps.callp (trC) (.cons rfl (.pv _) (.cons rfl (.pv _) .nil)) rfl ?_; refine AOps.allocN' rfl rfl rfl rfl ?_; (conv => rhs; simp only [Nf.all, Nat.reduceBEq, reduceAdd, reduceSub]); refine AOps.store_bn rfl rfl rfl rfl rfl rfl rfl rfl rfl (by with_reducible assumption) ?_; (conv => rhs; simp only [Nf.all, Nat.reduceBEq, reduceAdd, reduceSub]); refine zd ?_; refine zq ?_; refine AOps.load_ball rfl rfl rfl rfl rfl ?_; (conv => rhs; simp only [Nf.all, Nat.reduceBEq, reduceAdd, reduceSub]); refine AOps.allocN' rfl rfl rfl rfl ?_; (conv => rhs; simp only [Nf.all, Nat.reduceBEq, reduceAdd, reduceSub]); refine AOps.store_bn rfl rfl rfl rfl rfl rfl rfl rfl rfl (by with_reducible assumption) ?_; (conv => rhs; simp only [Nf.all, Nat.reduceBEq, reduceAdd, reduceSub]); refine zd ?_; refine zq ?_; refine AOps.bs1 rfl rfl rfl rfl rfl rfl rfl rfl ?_; (conv => rhs; simp only [Nf.all, Nat.reduceBEq, reduceAdd, reduceSub]); refine AOps.buildN 40 [0, 1] rfl rfl rfl rfl rfl rfl rfl rfl rfl ?_; (conv => rhs; simp only [Nf.all, Nat.reduceBEq, reduceAdd, reduceSub]); refine AOps.frzB rfl rfl ?_; (conv => rhs; simp only [Nf.all, Nat.reduceBEq, reduceAdd, reduceSub]); refine AOps.bs1a3 rfl rfl rfl rfl rfl rfl rfl rfl rfl rfl ?_; (conv => rhs; simp only [Nf.all, Nat.reduceBEq, reduceAdd, reduceSub]); refine AOps.fieldAddrN 27 1 1 rfl rfl rfl rfl ?_; refine AOps.store_b1 rfl rfl rfl rfl rfl rfl rfl rfl rfl (by with_reducible assumption) ?_; (conv => rhs; simp only [Nf.all, Nat.reduceBEq, reduceAdd, reduceSub]); refine zd ?_; refine zo ?_)
  refine AW.regionM [0,1] [98] rfl (by assumption) (by kernel_rfl) (by kernel_rfl) rfl ?_
  show AOps .held _ _ _ [_, _] _ _
  (refine AOps.load_ball rfl rfl rfl rfl rfl ?_; (conv => rhs; simp only [Nf.all, Nat.reduceBEq, reduceAdd, reduceSub]); refine AOps.load_ball rfl rfl rfl rfl rfl ?_; (conv => rhs; simp only [Nf.all, Nat.reduceBEq, reduceAdd, reduceSub]); refine AOps.nil ?_; refine onlyN_n ?_)
  intro k_ hk_
  (try (conv => rhs; simp only [Nf.all, Nat.reduceBEq, reduceAdd, reduceSub]))
  refine AR.step1M (i := 2) rfl (by kernel_rfl) rfl ?_
  intro g_ hgro_ hw_
  
  (refine AOps.call (vH1) (.cons rfl (.aggL (.cons (.own _ _ _ _ rfl) (.cons (.own _ _ _ _ rfl) (.cons (.pv _) (.cons (.pv _) .nil))))) (.cons rfl (.aggL (.cons (.pv _) (.cons (.pv _) (.cons (.pv _) (.cons (.pv _) .nil))))) .nil)) rfl rfl (fun h_ => by cases h_) ?_; refine AOps.nil ?_; refine onlyN_n ?_)
  refine AR.step1M (i := 3) rfl (by kernel_rfl) rfl ?_
  intro g_ hgro_ hw_
  (refine zm ?_; refine AOps.nil ?_; refine onlyN_n ?_)
  refine AR.readsM [4,5] (by kernel_rfl) (by kernel_rfl) (by kernel_rfl) (by kernel_rfl) ?_
  intro g_ hgro_
  show AOps .held _ _ _ [_, _] _ _
  (refine zl ?_; refine AOps.load_ball rfl rfl rfl rfl rfl ?_; (conv => rhs; simp only [Nf.all, Nat.reduceBEq, reduceAdd, reduceSub]); refine zl ?_; refine AOps.load_ball rfl rfl rfl rfl rfl ?_; (conv => rhs; simp only [Nf.all, Nat.reduceBEq, reduceAdd, reduceSub]); refine AOps.nil ?_; refine onlyN_n ?_)
  intro k_ hk_
  (try (conv => rhs; simp only [Nf.all, Nat.reduceBEq, reduceAdd, reduceSub]))
  refine AR.step1M (i := 6) rfl (by kernel_rfl) rfl ?_
  intro g_ hgro_ hw_
  
  (refine zl ?_; refine AOps.call (vH2) (.cons rfl (.aggL (.cons (.own _ _ _ _ rfl) (.cons (.own _ _ _ _ rfl) (.cons (.pv _) (.cons (.pv _) .nil))))) (.cons rfl (.aggL (.cons (.pv _) (.cons (.pv _) (.cons (.pv _) (.cons (.pv _) .nil))))) .nil)) rfl rfl (fun h_ => by cases h_) ?_; refine AOps.nil ?_; refine onlyN_n ?_)
  refine AR.step1M (i := 7) rfl (by kernel_rfl) rfl ?_
  intro g_ hgro_ hw_
  (refine AOps.pick_lt rfl rfl rfl rfl rfl rfl ?_; refine AOps.nil ?_; refine onlyN_n ?_)
  refine AR.step1M (i := 8) rfl (by kernel_rfl) rfl ?_
  intro g_ hgro_ hw_
  (refine zm ?_; refine AOps.nil ?_; refine onlyN_n ?_)
  refine AR.readsM [9] (by kernel_rfl) (by kernel_rfl) (by kernel_rfl) (by kernel_rfl) ?_
  intro g_ hgro_
  show AOps .held _ _ _ [_] _ _
  (refine zl ?_; refine AOps.load_ball rfl rfl rfl rfl rfl ?_; (conv => rhs; simp only [Nf.all, Nat.reduceBEq, reduceAdd, reduceSub]); refine AOps.nil ?_; refine onlyN_n ?_)
  intro k_ hk_
  (try (conv => rhs; simp only [Nf.all, Nat.reduceBEq, reduceAdd, reduceSub]))
  refine AR.step1M (i := 10) rfl (by kernel_rfl) rfl ?_
  intro g_ hgro_ hw_
  (refine zl ?_; refine AOps.bs4 rfl rfl rfl rfl rfl rfl rfl rfl rfl rfl rfl rfl rfl rfl rfl rfl rfl ?_; (conv => rhs; simp only [Nf.all, Nat.reduceBEq, reduceAdd, reduceSub]); refine AOps.nil ?_; refine onlyN_n ?_)
  refine AR.step1M (i := 11) rfl (by kernel_rfl) rfl ?_
  intro g_ hgro_ hw_
  
  (refine zl ?_; refine AOps.frzC rfl rfl ?_; (conv => rhs; simp only [Nf.all, Nat.reduceBEq, reduceAdd, reduceSub]); refine AOps.callp (trH4) (.cons rfl (.pv _) (.cons rfl (.pv _) .nil)) rfl ?_; refine AOps.nil ?_; refine onlyN_n ?_)
  refine AR.step1M (i := 12) rfl (by kernel_rfl) rfl ?_
  intro g_ hgro_ hw_
  
  (refine zl ?_; refine AOps.call (vH3) (.cons rfl (.aggL (.cons (.own _ _ _ _ rfl) (.cons (.own _ _ _ _ rfl) (.cons (.pv _) (.cons (.pv _) .nil))))) (.cons rfl (.aggL (.cons (.pv _) (.cons (.pv _) (.cons (.pv _) (.cons (.pv _) .nil))))) .nil)) rfl rfl (fun h_ => by cases h_) ?_; refine AOps.nil ?_; refine onlyN_n ?_)
  refine AR.step1M (i := 13) rfl (by kernel_rfl) rfl ?_
  intro g_ hgro_ hw_
  (refine zl ?_; refine AOps.not rfl rfl rfl ?_; refine AOps.nil ?_; refine onlyN_n ?_)
  refine AR.step1M (i := 14) rfl (by kernel_rfl) rfl ?_
  intro g_ hgro_ hw_
  (refine AOps.pick_lt rfl rfl rfl rfl rfl rfl ?_; refine AOps.nil ?_; refine onlyN_n ?_)
  refine AR.step1M (i := 15) rfl (by kernel_rfl) rfl ?_
  intro g_ hgro_ hw_
  (refine zm ?_; refine AOps.nil ?_; refine onlyN_n ?_)
  refine AR.readsM [16] (by kernel_rfl) (by kernel_rfl) (by kernel_rfl) (by kernel_rfl) ?_
  intro g_ hgro_
  show AOps .held _ _ _ [_] _ _
  (refine zl ?_; refine AOps.load_ball rfl rfl rfl rfl rfl ?_; (conv => rhs; simp only [Nf.all, Nat.reduceBEq, reduceAdd, reduceSub]); refine AOps.nil ?_; refine onlyN_n ?_)
  intro k_ hk_
  (try (conv => rhs; simp only [Nf.all, Nat.reduceBEq, reduceAdd, reduceSub]))
  refine AR.step1M (i := 17) rfl (by kernel_rfl) rfl ?_
  intro g_ hgro_ hw_
  (refine zl ?_; refine AOps.bs1 rfl rfl rfl rfl rfl rfl rfl rfl ?_; (conv => rhs; simp only [Nf.all, Nat.reduceBEq, reduceAdd, reduceSub]); refine AOps.nil ?_; refine onlyN_n ?_)
  refine AR.step1M (i := 18) rfl (by kernel_rfl) rfl ?_
  intro g_ hgro_ hw_
  
  (refine zl ?_; refine AOps.frzC rfl rfl ?_; (conv => rhs; simp only [Nf.all, Nat.reduceBEq, reduceAdd, reduceSub]); refine AOps.callp (trH0) (.cons rfl (.pv _) (.cons rfl (.pv _) .nil)) rfl ?_; refine AOps.nil ?_; refine onlyN_n ?_)
  refine AR.step1M (i := 19) rfl (by kernel_rfl) rfl ?_
  intro g_ hgro_ hw_
  
  (refine zl ?_; refine AOps.call (vH4) (.cons rfl (.aggL (.cons (.own _ _ _ _ rfl) (.cons (.own _ _ _ _ rfl) (.cons (.pv _) (.cons (.pv _) .nil))))) (.cons rfl (.aggL (.cons (.pv _) (.cons (.pv _) (.cons (.pv _) (.cons (.pv _) .nil))))) .nil)) rfl rfl (fun h_ => by cases h_) ?_; refine AOps.nil ?_; refine onlyN_n ?_)
  refine AR.step1M (i := 20) rfl (by kernel_rfl) rfl ?_
  intro g_ hgro_ hw_
  (refine zl ?_; refine AOps.not rfl rfl rfl ?_; refine AOps.nil ?_; refine onlyN_n ?_)
  refine AR.step1M (i := 21) rfl (by kernel_rfl) rfl ?_
  intro g_ hgro_ hw_
  (refine AOps.pick_lt rfl rfl rfl rfl rfl rfl ?_; refine AOps.nil ?_; refine onlyN_n ?_)
  refine AR.step1M (i := 22) rfl (by kernel_rfl) rfl ?_
  intro g_ hgro_ hw_
  (refine zm ?_; refine AOps.nil ?_; refine onlyN_n ?_)
  refine AR.readsM [23,24] (by kernel_rfl) (by kernel_rfl) (by kernel_rfl) (by kernel_rfl) ?_
  intro g_ hgro_
  show AOps .held _ _ _ [_, _] _ _
  (refine zl ?_; refine AOps.load_ball rfl rfl rfl rfl rfl ?_; (conv => rhs; simp only [Nf.all, Nat.reduceBEq, reduceAdd, reduceSub]); refine zl ?_; refine AOps.load_ball rfl rfl rfl rfl rfl ?_; (conv => rhs; simp only [Nf.all, Nat.reduceBEq, reduceAdd, reduceSub]); refine AOps.nil ?_; refine onlyN_n ?_)
  intro k_ hk_
  (try (conv => rhs; simp only [Nf.all, Nat.reduceBEq, reduceAdd, reduceSub]))
  refine AR.step1M (i := 25) rfl (by kernel_rfl) rfl ?_
  intro g_ hgro_ hw_
  
  (refine zl ?_; refine AOps.call (vH5) (.cons rfl (.aggL (.cons (.own _ _ _ _ rfl) (.cons (.own _ _ _ _ rfl) (.cons (.pv _) (.cons (.pv _) .nil))))) (.cons rfl (.aggL (.cons (.pv _) (.cons (.pv _) (.cons (.pv _) (.cons (.pv _) .nil))))) .nil)) rfl rfl (fun h_ => by cases h_) ?_; refine AOps.nil ?_; refine onlyN_n ?_)
  refine AR.step1M (i := 26) rfl (by kernel_rfl) rfl ?_
  intro g_ hgro_ hw_
  (refine zl ?_; refine AOps.not rfl rfl rfl ?_; refine AOps.nil ?_; refine onlyN_n ?_)
  refine AR.step1M (i := 27) rfl (by kernel_rfl) rfl ?_
  intro g_ hgro_ hw_
  (refine AOps.pick_lt rfl rfl rfl rfl rfl rfl ?_; refine AOps.nil ?_; refine onlyN_n ?_)
  refine AR.step1M (i := 28) rfl (by kernel_rfl) rfl ?_
  intro g_ hgro_ hw_
  (refine zm ?_; refine AOps.nil ?_; refine onlyN_n ?_)
  refine AR.readsM [29] (by kernel_rfl) (by kernel_rfl) (by kernel_rfl) (by kernel_rfl) ?_
  intro g_ hgro_
  show AOps .held _ _ _ [_] _ _
  (refine zl ?_; refine AOps.load_ball rfl rfl rfl rfl rfl ?_; (conv => rhs; simp only [Nf.all, Nat.reduceBEq, reduceAdd, reduceSub]); refine AOps.nil ?_; refine onlyN_n ?_)
  intro k_ hk_
  (try (conv => rhs; simp only [Nf.all, Nat.reduceBEq, reduceAdd, reduceSub]))
  refine AR.step1M (i := 30) rfl (by kernel_rfl) rfl ?_
  intro g_ hgro_ hw_
  (refine zl ?_; refine AOps.bs2 rfl rfl rfl rfl rfl rfl rfl rfl rfl rfl rfl ?_; (conv => rhs; simp only [Nf.all, Nat.reduceBEq, reduceAdd, reduceSub]); refine AOps.nil ?_; refine onlyN_n ?_)
  refine AR.step1M (i := 31) rfl (by kernel_rfl) rfl ?_
  intro g_ hgro_ hw_
  
  (refine zl ?_; refine AOps.frzC rfl rfl ?_; (conv => rhs; simp only [Nf.all, Nat.reduceBEq, reduceAdd, reduceSub]); refine AOps.callp (trH1) (.cons rfl (.pv _) (.cons rfl (.pv _) .nil)) rfl ?_; refine AOps.nil ?_; refine onlyN_n ?_)
  refine AR.step1M (i := 32) rfl (by kernel_rfl) rfl ?_
  intro g_ hgro_ hw_
  
  (refine zl ?_; refine AOps.call (vH6) (.cons rfl (.aggL (.cons (.own _ _ _ _ rfl) (.cons (.own _ _ _ _ rfl) (.cons (.pv _) (.cons (.pv _) .nil))))) (.cons rfl (.aggL (.cons (.pv _) (.cons (.pv _) (.cons (.pv _) (.cons (.pv _) .nil))))) .nil)) rfl rfl (fun h_ => by cases h_) ?_; refine AOps.nil ?_; refine onlyN_n ?_)
  refine AR.step1M (i := 33) rfl (by kernel_rfl) rfl ?_
  intro g_ hgro_ hw_
  (refine AOps.pick_lt rfl rfl rfl rfl rfl rfl ?_; refine AOps.nil ?_; refine onlyN_n ?_)
  refine AR.step1M (i := 34) rfl (by kernel_rfl) rfl ?_
  intro g_ hgro_ hw_
  (refine zm ?_; refine AOps.nil ?_; refine onlyN_n ?_)
  refine AR.readsM [35,36] (by kernel_rfl) (by kernel_rfl) (by kernel_rfl) (by kernel_rfl) ?_
  intro g_ hgro_
  show AOps .held _ _ _ [_, _] _ _
  (refine zl ?_; refine AOps.load_ball rfl rfl rfl rfl rfl ?_; (conv => rhs; simp only [Nf.all, Nat.reduceBEq, reduceAdd, reduceSub]); refine zl ?_; refine AOps.load_ball rfl rfl rfl rfl rfl ?_; (conv => rhs; simp only [Nf.all, Nat.reduceBEq, reduceAdd, reduceSub]); refine AOps.nil ?_; refine onlyN_n ?_)
  intro k_ hk_
  (try (conv => rhs; simp only [Nf.all, Nat.reduceBEq, reduceAdd, reduceSub]))
  refine AR.step1M (i := 37) rfl (by kernel_rfl) rfl ?_
  intro g_ hgro_ hw_
  
  (refine zl ?_; refine AOps.call (tH1) (.cons rfl (.aggL (.cons (.pv _) (.cons (.pv _) (.cons (.pv _) (.cons (.pv _) .nil))))) (.cons rfl (.aggL (.cons (.pv _) (.cons (.pv _) (.cons (.pv _) (.cons (.pv _) .nil))))) .nil)) rfl rfl (fun h_ => by cases h_) ?_; refine AOps.nil ?_; refine onlyN_n ?_)
  refine AR.step1M (i := 38) rfl (by kernel_rfl) rfl ?_
  intro g_ hgro_ hw_
  (refine AOps.pick_lt rfl rfl rfl rfl rfl rfl ?_; refine AOps.nil ?_; refine onlyN_n ?_)
  refine AR.step1M (i := 39) rfl (by kernel_rfl) rfl ?_
  intro g_ hgro_ hw_
  (refine zm ?_; refine AOps.nil ?_; refine onlyN_n ?_)
  refine AR.readsM [40,41] (by kernel_rfl) (by kernel_rfl) (by kernel_rfl) (by kernel_rfl) ?_
  intro g_ hgro_
  show AOps .held _ _ _ [_, _] _ _
  (refine zl ?_; refine AOps.load_ball rfl rfl rfl rfl rfl ?_; (conv => rhs; simp only [Nf.all, Nat.reduceBEq, reduceAdd, reduceSub]); refine zl ?_; refine AOps.load_ball rfl rfl rfl rfl rfl ?_; (conv => rhs; simp only [Nf.all, Nat.reduceBEq, reduceAdd, reduceSub]); refine AOps.nil ?_; refine onlyN_n ?_)
  intro k_ hk_
  (try (conv => rhs; simp only [Nf.all, Nat.reduceBEq, reduceAdd, reduceSub]))
  refine AR.step1M (i := 42) rfl (by kernel_rfl) rfl ?_
  intro g_ hgro_ hw_
  
  (refine zl ?_; refine AOps.call (tH2) (.cons rfl (.aggL (.cons (.pv _) (.cons (.pv _) (.cons (.pv _) (.cons (.pv _) .nil))))) (.cons rfl (.aggL (.cons (.pv _) (.cons (.pv _) (.cons (.pv _) (.cons (.pv _) .nil))))) .nil)) rfl rfl (fun h_ => by cases h_) ?_; refine AOps.nil ?_; refine onlyN_n ?_)
  refine AR.step1M (i := 43) rfl (by kernel_rfl) rfl ?_
  intro g_ hgro_ hw_
  (refine zl ?_; refine AOps.not rfl rfl rfl ?_; refine AOps.nil ?_; refine onlyN_n ?_)
  refine AR.step1M (i := 44) rfl (by kernel_rfl) rfl ?_
  intro g_ hgro_ hw_
  (refine AOps.pick_lt rfl rfl rfl rfl rfl rfl ?_; refine AOps.nil ?_; refine onlyN_n ?_)
  refine AR.step1M (i := 45) rfl (by kernel_rfl) rfl ?_
  intro g_ hgro_ hw_
  (refine zm ?_; refine AOps.nil ?_; refine onlyN_n ?_)
  refine AR.readsM [46,47] (by kernel_rfl) (by kernel_rfl) (by kernel_rfl) (by kernel_rfl) ?_
  intro g_ hgro_
  show AOps .held _ _ _ [_, _] _ _
  (refine zl ?_; refine AOps.load_ball rfl rfl rfl rfl rfl ?_; (conv => rhs; simp only [Nf.all, Nat.reduceBEq, reduceAdd, reduceSub]); refine zl ?_; refine AOps.load_ball rfl rfl rfl rfl rfl ?_; (conv => rhs; simp only [Nf.all, Nat.reduceBEq, reduceAdd, reduceSub]); refine AOps.nil ?_; refine onlyN_n ?_)
  intro k_ hk_
  (try (conv => rhs; simp only [Nf.all, Nat.reduceBEq, reduceAdd, reduceSub]))
  refine AR.step1M (i := 48) rfl (by kernel_rfl) rfl ?_
  intro g_ hgro_ hw_
  
  (refine zl ?_; refine AOps.call (eqH1) (.cons rfl (.aggL (.cons (.pv _) (.cons (.pv _) (.cons (.pv _) (.cons (.pv _) .nil))))) (.cons rfl (.aggL (.cons (.pv _) (.cons (.pv _) (.cons (.pv _) (.cons (.pv _) .nil))))) .nil)) rfl rfl (fun h_ => by cases h_) ?_; refine AOps.nil ?_; refine onlyN_n ?_)
  refine AR.step1M (i := 49) rfl (by kernel_rfl) rfl ?_
  intro g_ hgro_ hw_
  (refine zl ?_; refine AOps.not rfl rfl rfl ?_; refine AOps.nil ?_; refine onlyN_n ?_)
  refine AR.step1M (i := 50) rfl (by kernel_rfl) rfl ?_
  intro g_ hgro_ hw_
  (refine AOps.pick_lt rfl rfl rfl rfl rfl rfl ?_; refine AOps.nil ?_; refine onlyN_n ?_)
  refine AR.step1M (i := 51) rfl (by kernel_rfl) rfl ?_
  intro g_ hgro_ hw_
  (refine zm ?_; refine AOps.nil ?_; refine onlyN_n ?_)
  refine AR.readsM [52,54] (by kernel_rfl) (by kernel_rfl) (by kernel_rfl) (by kernel_rfl) ?_
  intro g_ hgro_
  show AOps .held _ _ _ [_, _] _ _
  (refine zl ?_; refine AOps.load_ball rfl rfl rfl rfl rfl ?_; (conv => rhs; simp only [Nf.all, Nat.reduceBEq, reduceAdd, reduceSub]); refine zl ?_; refine AOps.load_ball rfl rfl rfl rfl rfl ?_; (conv => rhs; simp only [Nf.all, Nat.reduceBEq, reduceAdd, reduceSub]); refine AOps.nil ?_; refine onlyN_n ?_)
  intro k_ hk_
  (try (conv => rhs; simp only [Nf.all, Nat.reduceBEq, reduceAdd, reduceSub]))
  refine AR.step1M (i := 53) rfl (by kernel_rfl) rfl ?_
  intro g_ hgro_ hw_
  
  (refine zl ?_; refine AOps.callp (hH1) (.cons rfl (.aggL (.cons (.pv _) (.cons (.pv _) (.cons (.pv _) (.cons (.pv _) .nil))))) .nil) rfl ?_; refine AOps.nil ?_; refine onlyN_n ?_)
  refine AR.step1M (i := 55) rfl (by kernel_rfl) rfl ?_
  intro g_ hgro_ hw_
  
  (refine zl ?_; refine AOps.call (eqH2) (.cons rfl (.aggL (.cons (.pv _) (.cons (.pv _) (.cons (.pv _) (.cons (.pv _) .nil))))) (.cons rfl (.aggL (.cons (.pv _) (.cons (.pv _) (.cons (.pv _) (.cons (.pv _) .nil))))) .nil)) rfl rfl (fun h_ => by cases h_) ?_; refine AOps.nil ?_; refine onlyN_n ?_)
  refine AR.step1M (i := 56) rfl (by kernel_rfl) rfl ?_
  intro g_ hgro_ hw_
  (refine AOps.pick_lt rfl rfl rfl rfl rfl rfl ?_; refine AOps.nil ?_; refine onlyN_n ?_)
  refine AR.step1M (i := 57) rfl (by kernel_rfl) rfl ?_
  intro g_ hgro_ hw_
  (refine zm ?_; refine AOps.nil ?_; refine onlyN_n ?_)
  refine AR.readsM [58] (by kernel_rfl) (by kernel_rfl) (by kernel_rfl) (by kernel_rfl) ?_
  intro g_ hgro_
  show AOps .held _ _ _ [_] _ _
  (refine zl ?_; refine AOps.load_ball rfl rfl rfl rfl rfl ?_; (conv => rhs; simp only [Nf.all, Nat.reduceBEq, reduceAdd, reduceSub]); refine AOps.nil ?_; refine onlyN_n ?_)
  intro k_ hk_
  (try (conv => rhs; simp only [Nf.all, Nat.reduceBEq, reduceAdd, reduceSub]))
  refine AR.step2M (i := 59) (j := 60) rfl (by kernel_rfl) rfl rfl ?_ ?_ <;> intro g_ hgro_ hw_
  · (refine zl ?_; refine AOps.callp (hH2) (.cons rfl (.aggL (.cons (.pv _) (.cons (.pv _) (.cons (.pv _) (.cons (.pv _) .nil))))) .nil) rfl ?_; refine AOps.nil ?_; refine onlyN_n ?_)
    refine AR.step1M (i := 60) rfl (by kernel_rfl) rfl ?_
    intro g_ hgro_ hw_
    (refine zl ?_; refine AOps.bs2 rfl rfl rfl rfl rfl rfl rfl rfl rfl rfl rfl ?_; (conv => rhs; simp only [Nf.all, Nat.reduceBEq, reduceAdd, reduceSub]); refine AOps.nil ?_; refine onlyN_n ?_)
    refine AR.step1M (i := 61) rfl (by kernel_rfl) rfl ?_
    intro g_ hgro_ hw_
    
    (refine zl ?_; refine AOps.frzC rfl rfl ?_; (conv => rhs; simp only [Nf.all, Nat.reduceBEq, reduceAdd, reduceSub]); refine AOps.callp (trH01) (.cons rfl (.pv _) (.cons rfl (.pv _) .nil)) rfl ?_; refine AOps.nil ?_; refine onlyN_n ?_)
    refine AR.step1M (i := 62) rfl (by kernel_rfl) rfl ?_
    intro g_ hgro_ hw_
    
    (refine zl ?_; refine AOps.call (eqH3) (.cons rfl (.aggL (.cons (.pv _) (.cons (.pv _) (.cons (.pv _) (.cons (.pv _) .nil))))) (.cons rfl (.aggL (.cons (.pv _) (.cons (.pv _) (.cons (.pv _) (.cons (.pv _) .nil))))) .nil)) rfl rfl (fun h_ => by cases h_) ?_; refine AOps.nil ?_; refine onlyN_n ?_)
    refine AR.step1M (i := 63) rfl (by kernel_rfl) rfl ?_
    intro g_ hgro_ hw_
    (refine AOps.pick_lt rfl rfl rfl rfl rfl rfl ?_; refine AOps.nil ?_; refine onlyN_n ?_)
    refine AR.step1M (i := 64) rfl (by kernel_rfl) rfl ?_
    intro g_ hgro_ hw_
    (refine zm ?_; refine AOps.nil ?_; refine onlyN_n ?_)
    refine AR.readsM [65] (by kernel_rfl) (by kernel_rfl) (by kernel_rfl) (by kernel_rfl) ?_
    intro g_ hgro_
    show AOps .held _ _ _ [_] _ _
    (refine zl ?_; refine AOps.load_ball rfl rfl rfl rfl rfl ?_; (conv => rhs; simp only [Nf.all, Nat.reduceBEq, reduceAdd, reduceSub]); refine AOps.nil ?_; refine onlyN_n ?_)
    intro k_ hk_
    (try (conv => rhs; simp only [Nf.all, Nat.reduceBEq, reduceAdd, reduceSub]))
    refine AR.step1M (i := 66) rfl (by kernel_rfl) rfl ?_
    intro g_ hgro_ hw_
    
    (refine zl ?_; refine AOps.call (nH1) (.cons rfl (.aggL (.cons (.pv _) (.cons (.pv _) (.cons (.pv _) (.cons (.pv _) .nil))))) (.cons rfl (.pv _) .nil)) rfl rfl (fun h_ => by cases h_) ?_; refine AOps.nil ?_; refine onlyN_n ?_)
    refine AR.step1M (i := 67) rfl (by kernel_rfl) rfl ?_
    intro g_ hgro_ hw_
    (refine zl ?_; refine AOps.eql rfl rfl rfl rfl rfl ?_; refine AOps.nil ?_; refine onlyN_n ?_)
    refine AR.step1M (i := 68) rfl (by kernel_rfl) rfl ?_
    intro g_ hgro_ hw_
    (refine AOps.pick_lt rfl rfl rfl rfl rfl rfl ?_; refine AOps.nil ?_; refine onlyN_n ?_)
    refine AR.step1M (i := 69) rfl (by kernel_rfl) rfl ?_
    intro g_ hgro_ hw_
    (refine zm ?_; refine AOps.nil ?_; refine onlyN_n ?_)
    refine AR.readsM [70] (by kernel_rfl) (by kernel_rfl) (by kernel_rfl) (by kernel_rfl) ?_
    intro g_ hgro_
    show AOps .held _ _ _ [_] _ _
    (refine zl ?_; refine AOps.load_ball rfl rfl rfl rfl rfl ?_; (conv => rhs; simp only [Nf.all, Nat.reduceBEq, reduceAdd, reduceSub]); refine AOps.nil ?_; refine onlyN_n ?_)
    intro k_ hk_
    (try (conv => rhs; simp only [Nf.all, Nat.reduceBEq, reduceAdd, reduceSub]))
    refine AR.step1M (i := 71) rfl (by kernel_rfl) rfl ?_
    intro g_ hgro_ hw_
    
    (refine zl ?_; refine AOps.call (nH2) (.cons rfl (.aggL (.cons (.pv _) (.cons (.pv _) (.cons (.pv _) (.cons (.pv _) .nil))))) (.cons rfl (.pv _) .nil)) rfl rfl (fun h_ => by cases h_) ?_; refine AOps.nil ?_; refine onlyN_n ?_)
    refine AR.step1M (i := 72) rfl (by kernel_rfl) rfl ?_
    intro g_ hgro_ hw_
    (refine zl ?_; refine AOps.eql rfl rfl rfl rfl rfl ?_; refine AOps.nil ?_; refine onlyN_n ?_)
    refine AR.step1M (i := 73) rfl (by kernel_rfl) rfl ?_
    intro g_ hgro_ hw_
    (refine AOps.pick_lt rfl rfl rfl rfl rfl rfl ?_; refine AOps.nil ?_; refine onlyN_n ?_)
    refine AR.step1M (i := 74) rfl (by kernel_rfl) rfl ?_
    intro g_ hgro_ hw_
    (refine zm ?_; refine AOps.nil ?_; refine onlyN_n ?_)
    refine AR.readsM [75] (by kernel_rfl) (by kernel_rfl) (by kernel_rfl) (by kernel_rfl) ?_
    intro g_ hgro_
    show AOps .held _ _ _ [_] _ _
    (refine zl ?_; refine AOps.load_ball rfl rfl rfl rfl rfl ?_; (conv => rhs; simp only [Nf.all, Nat.reduceBEq, reduceAdd, reduceSub]); refine AOps.nil ?_; refine onlyN_n ?_)
    intro k_ hk_
    (try (conv => rhs; simp only [Nf.all, Nat.reduceBEq, reduceAdd, reduceSub]))
    refine AR.step1M (i := 76) rfl (by kernel_rfl) rfl ?_
    intro g_ hgro_ hw_
    
    (refine zl ?_; refine AOps.callp (aH1) (.cons rfl (.aggL (.cons (.pv _) (.cons (.pv _) (.cons (.pv _) (.cons (.pv _) .nil))))) (.cons rfl (.pv _) .nil)) rfl ?_; refine AOps.nil ?_; refine onlyN_n ?_)
    refine AR.step1M (i := 77) rfl (by kernel_rfl) rfl ?_
    intro g_ hgro_ hw_
    
    (refine zl ?_; refine AOps.callp (set_fn 1) (.cons rfl (.pv _) .nil) rfl ?_; refine AOps.nil ?_; refine onlyN_n ?_)
    refine AR.step1M (i := 78) rfl (by kernel_rfl) rfl ?_
    intro g_ hgro_ hw_
    
    (refine zl ?_; refine AOps.call (rH1) (.cons rfl (.pv _) (.cons rfl (.pv _) .nil)) rfl rfl (fun h_ => by cases h_) ?_; refine AOps.nil ?_; refine onlyN_n ?_)
    refine AR.step1M (i := 79) rfl (by kernel_rfl) rfl ?_
    intro g_ hgro_ hw_
    (refine AOps.pick_lt rfl rfl rfl rfl rfl rfl ?_; refine AOps.nil ?_; refine onlyN_n ?_)
    refine AR.step1M (i := 80) rfl (by kernel_rfl) rfl ?_
    intro g_ hgro_ hw_
    (refine zm ?_; refine AOps.nil ?_; refine onlyN_n ?_)
    refine AR.readsM [81] (by kernel_rfl) (by kernel_rfl) (by kernel_rfl) (by kernel_rfl) ?_
    intro g_ hgro_
    show AOps .held _ _ _ [_] _ _
    (refine zl ?_; refine AOps.load_ball rfl rfl rfl rfl rfl ?_; (conv => rhs; simp only [Nf.all, Nat.reduceBEq, reduceAdd, reduceSub]); refine AOps.nil ?_; refine onlyN_n ?_)
    intro k_ hk_
    (try (conv => rhs; simp only [Nf.all, Nat.reduceBEq, reduceAdd, reduceSub]))
    refine AR.step1M (i := 82) rfl (by kernel_rfl) rfl ?_
    intro g_ hgro_ hw_
    
    (refine zl ?_; refine AOps.callp (aH2) (.cons rfl (.aggL (.cons (.pv _) (.cons (.pv _) (.cons (.pv _) (.cons (.pv _) .nil))))) (.cons rfl (.pv _) .nil)) rfl ?_; refine AOps.nil ?_; refine onlyN_n ?_)
    refine AR.step1M (i := 83) rfl (by kernel_rfl) rfl ?_
    intro g_ hgro_ hw_
    (refine zl ?_; refine zn ?_; refine AOps.nil ?_; refine onlyN_n ?_)
    refine AR.step1M (i := 84) rfl (by kernel_rfl) rfl ?_
    intro g_ hgro_ hw_
    (refine zl ?_; refine AOps.eql rfl rfl rfl rfl rfl ?_; refine AOps.nil ?_; refine onlyN_n ?_)
    refine AR.step1M (i := 85) rfl (by kernel_rfl) rfl ?_
    intro g_ hgro_ hw_
    (refine AOps.pick_lt rfl rfl rfl rfl rfl rfl ?_; refine AOps.nil ?_; refine onlyN_n ?_)
    refine AR.step1M (i := 86) rfl (by kernel_rfl) rfl ?_
    intro g_ hgro_ hw_
    (refine zm ?_; refine AOps.nil ?_; refine onlyN_n ?_)
    refine AR.step1M (i := 87) rfl (by kernel_rfl) rfl ?_
    intro g_ hgro_ hw_
    
    (refine zl ?_; refine AOps.callp (set_fn 2) (.cons rfl (.pv _) .nil) rfl ?_; refine AOps.nil ?_; refine onlyN_n ?_)
    refine AR.step1M (i := 88) rfl (by kernel_rfl) rfl ?_
    intro g_ hgro_ hw_
    (refine zl ?_; (focus ((with_reducible apply AOps.index_mapI); (iterate 7 exact rfl); omega; rotate_left; (first | omega | exact Nat.zero_lt_one | exact (by simp)))); refine AOps.nil ?_; refine onlyN_n ?_)
    refine AR.step1M (i := 89) rfl (by kernel_rfl) rfl ?_
    intro g_ hgro_ hw_
    (refine zl ?_; refine AOps.load_rn rfl rfl rfl rfl ?_; (conv => rhs; simp only [Nf.all, Nat.reduceBEq, reduceAdd, reduceSub]); refine AOps.nil ?_; refine onlyN_n ?_)
    refine AR.step1M (i := 90) rfl (by kernel_rfl) rfl ?_
    intro g_ hgro_ hw_
    
    (refine zl ?_; refine AOps.call (rvH) (.cons rfl (.pv _) (.cons rfl (.aggL (.cons (.pv _) (.cons (.pv _) .nil))) .nil)) rfl rfl (fun h_ => by cases h_) ?_; refine AOps.nil ?_; refine onlyN_n ?_)
    refine AR.step1M (i := 91) rfl (by kernel_rfl) rfl ?_
    intro g_ hgro_ hw_
    (refine AOps.pick_lt rfl rfl rfl rfl rfl rfl ?_; refine AOps.nil ?_; refine onlyN_n ?_)
    refine AR.step1M (i := 92) rfl (by kernel_rfl) rfl ?_
    intro g_ hgro_ hw_
    (refine zm ?_; refine AOps.nil ?_; refine onlyN_n ?_)
    refine AR.readsM [93,94] (by kernel_rfl) (by kernel_rfl) (by kernel_rfl) (by kernel_rfl) ?_
    intro g_ hgro_
    show AOps .held _ _ _ [_, _] _ _
    (refine zl ?_; refine AOps.fieldAddrN 33 0 0 rfl rfl rfl rfl ?_; refine zl ?_; (with_reducible apply AOps.load_bs); (iterate 3 exact rfl); (repeat' first | exact Sub.nil | apply Sub.take | apply Sub.skip); (iterate 3 exact rfl); refine AOps.nil ?_; refine onlyN_n ?_)
    intro k_ hk_
    (try (conv => rhs; simp only [Nf.all, Nat.reduceBEq, reduceAdd, reduceSub]))
    refine AR.step1M (i := 95) rfl (by kernel_rfl) rfl ?_
    intro g_ hgro_ hw_
    
    (refine zl ?_; refine AOps.call (atH) (.cons rfl (.aggL (.cons (.pv _) (.cons (.pv _) .nil))) .nil) rfl rfl (fun h_ => by cases h_) ?_; refine AOps.nil ?_; refine onlyN_n ?_)
    refine AR.step1M (i := 96) rfl (by kernel_rfl) rfl ?_
    intro g_ hgro_ hw_
    (refine zl ?_; refine AOps.eql rfl rfl rfl rfl rfl ?_; refine AOps.nil ?_; refine onlyN_n ?_)
    refine AR.step1M (i := 97) rfl (by kernel_rfl) rfl ?_
    intro g_ hgro_ hw_
    (refine AOps.pick_lt rfl rfl rfl rfl rfl rfl ?_; refine AOps.nil ?_; refine onlyN_n ?_)
    refine AR.step1LM (i := 98) rfl (by kernel_rfl) rfl (by kernel_rfl) ?_
    intro g_ hgro_ hwt2_
    (refine za ?_; refine AOps.nil ?_; refine onlyN_n ?_)
    refine AR.doneM (by assumption) (by kernel_rfl) ?_
    (refine thenD_n ?_; refine AW.ret ?_)
    (apply ends_ret; (exact Res.one (.tmp rfl rfl)); (refine Le.litB ?_; (rfl)))
  · (refine zl ?_; refine AOps.bs2 rfl rfl rfl rfl rfl rfl rfl rfl rfl rfl rfl ?_; (conv => rhs; simp only [Nf.all, Nat.reduceBEq, reduceAdd, reduceSub]); refine AOps.nil ?_; refine onlyN_n ?_)
    refine AR.step1M (i := 59) rfl (by kernel_rfl) rfl ?_
    intro g_ hgro_ hw_
    
    (refine zl ?_; refine AOps.callp (hH2) (.cons rfl (.aggL (.cons (.pv _) (.cons (.pv _) (.cons (.pv _) (.cons (.pv _) .nil))))) .nil) rfl ?_; refine AOps.nil ?_; refine onlyN_n ?_)
    refine AR.step1M (i := 61) rfl (by kernel_rfl) rfl ?_
    intro g_ hgro_ hw_
    
    (refine zl ?_; refine AOps.frzC rfl rfl ?_; (conv => rhs; simp only [Nf.all, Nat.reduceBEq, reduceAdd, reduceSub]); refine AOps.callp (trH01) (.cons rfl (.pv _) (.cons rfl (.pv _) .nil)) rfl ?_; refine AOps.nil ?_; refine onlyN_n ?_)
    refine AR.step1M (i := 62) rfl (by kernel_rfl) rfl ?_
    intro g_ hgro_ hw_
    
    (refine zl ?_; refine AOps.call (eqH3) (.cons rfl (.aggL (.cons (.pv _) (.cons (.pv _) (.cons (.pv _) (.cons (.pv _) .nil))))) (.cons rfl (.aggL (.cons (.pv _) (.cons (.pv _) (.cons (.pv _) (.cons (.pv _) .nil))))) .nil)) rfl rfl (fun h_ => by cases h_) ?_; refine AOps.nil ?_; refine onlyN_n ?_)
    refine AR.step1M (i := 63) rfl (by kernel_rfl) rfl ?_
    intro g_ hgro_ hw_
    (refine AOps.pick_lt rfl rfl rfl rfl rfl rfl ?_; refine AOps.nil ?_; refine onlyN_n ?_)
    refine AR.step1M (i := 64) rfl (by kernel_rfl) rfl ?_
    intro g_ hgro_ hw_
    (refine zm ?_; refine AOps.nil ?_; refine onlyN_n ?_)
    refine AR.readsM [65] (by kernel_rfl) (by kernel_rfl) (by kernel_rfl) (by kernel_rfl) ?_
    intro g_ hgro_
    show AOps .held _ _ _ [_] _ _
    (refine zl ?_; refine AOps.load_ball rfl rfl rfl rfl rfl ?_; (conv => rhs; simp only [Nf.all, Nat.reduceBEq, reduceAdd, reduceSub]); refine AOps.nil ?_; refine onlyN_n ?_)
    intro k_ hk_
    (try (conv => rhs; simp only [Nf.all, Nat.reduceBEq, reduceAdd, reduceSub]))
    refine AR.step1M (i := 66) rfl (by kernel_rfl) rfl ?_
    intro g_ hgro_ hw_
    
    (refine zl ?_; refine AOps.call (nH1) (.cons rfl (.aggL (.cons (.pv _) (.cons (.pv _) (.cons (.pv _) (.cons (.pv _) .nil))))) (.cons rfl (.pv _) .nil)) rfl rfl (fun h_ => by cases h_) ?_; refine AOps.nil ?_; refine onlyN_n ?_)
    refine AR.step1M (i := 67) rfl (by kernel_rfl) rfl ?_
    intro g_ hgro_ hw_
    (refine zl ?_; refine AOps.eql rfl rfl rfl rfl rfl ?_; refine AOps.nil ?_; refine onlyN_n ?_)
    refine AR.step1M (i := 68) rfl (by kernel_rfl) rfl ?_
    intro g_ hgro_ hw_
    (refine AOps.pick_lt rfl rfl rfl rfl rfl rfl ?_; refine AOps.nil ?_; refine onlyN_n ?_)
    refine AR.step1M (i := 69) rfl (by kernel_rfl) rfl ?_
    intro g_ hgro_ hw_
    (refine zm ?_; refine AOps.nil ?_; refine onlyN_n ?_)
    refine AR.readsM [70] (by kernel_rfl) (by kernel_rfl) (by kernel_rfl) (by kernel_rfl) ?_
    intro g_ hgro_
    show AOps .held _ _ _ [_] _ _
    (refine zl ?_; refine AOps.load_ball rfl rfl rfl rfl rfl ?_; (conv => rhs; simp only [Nf.all, Nat.reduceBEq, reduceAdd, reduceSub]); refine AOps.nil ?_; refine onlyN_n ?_)
    intro k_ hk_
    (try (conv => rhs; simp only [Nf.all, Nat.reduceBEq, reduceAdd, reduceSub]))
    refine AR.step1M (i := 71) rfl (by kernel_rfl) rfl ?_
    intro g_ hgro_ hw_
    
    (refine zl ?_; refine AOps.call (nH2) (.cons rfl (.aggL (.cons (.pv _) (.cons (.pv _) (.cons (.pv _) (.cons (.pv _) .nil))))) (.cons rfl (.pv _) .nil)) rfl rfl (fun h_ => by cases h_) ?_; refine AOps.nil ?_; refine onlyN_n ?_)
    refine AR.step1M (i := 72) rfl (by kernel_rfl) rfl ?_
    intro g_ hgro_ hw_
    (refine zl ?_; refine AOps.eql rfl rfl rfl rfl rfl ?_; refine AOps.nil ?_; refine onlyN_n ?_)
    refine AR.step1M (i := 73) rfl (by kernel_rfl) rfl ?_
    intro g_ hgro_ hw_
    (refine AOps.pick_lt rfl rfl rfl rfl rfl rfl ?_; refine AOps.nil ?_; refine onlyN_n ?_)
    refine AR.step1M (i := 74) rfl (by kernel_rfl) rfl ?_
    intro g_ hgro_ hw_
    (refine zm ?_; refine AOps.nil ?_; refine onlyN_n ?_)
    refine AR.readsM [75] (by kernel_rfl) (by kernel_rfl) (by kernel_rfl) (by kernel_rfl) ?_
    intro g_ hgro_
    show AOps .held _ _ _ [_] _ _
    (refine zl ?_; refine AOps.load_ball rfl rfl rfl rfl rfl ?_; (conv => rhs; simp only [Nf.all, Nat.reduceBEq, reduceAdd, reduceSub]); refine AOps.nil ?_; refine onlyN_n ?_)
    intro k_ hk_
    (try (conv => rhs; simp only [Nf.all, Nat.reduceBEq, reduceAdd, reduceSub]))
    refine AR.step1M (i := 76) rfl (by kernel_rfl) rfl ?_
    intro g_ hgro_ hw_
    
    (refine zl ?_; refine AOps.callp (aH1) (.cons rfl (.aggL (.cons (.pv _) (.cons (.pv _) (.cons (.pv _) (.cons (.pv _) .nil))))) (.cons rfl (.pv _) .nil)) rfl ?_; refine AOps.nil ?_; refine onlyN_n ?_)
    refine AR.step1M (i := 77) rfl (by kernel_rfl) rfl ?_
    intro g_ hgro_ hw_
    
    (refine zl ?_; refine AOps.callp (set_fn 1) (.cons rfl (.pv _) .nil) rfl ?_; refine AOps.nil ?_; refine onlyN_n ?_)
    refine AR.step1M (i := 78) rfl (by kernel_rfl) rfl ?_
    intro g_ hgro_ hw_
    
    (refine zl ?_; refine AOps.call (rH1) (.cons rfl (.pv _) (.cons rfl (.pv _) .nil)) rfl rfl (fun h_ => by cases h_) ?_; refine AOps.nil ?_; refine onlyN_n ?_)
    refine AR.step1M (i := 79) rfl (by kernel_rfl) rfl ?_
    intro g_ hgro_ hw_
    (refine AOps.pick_lt rfl rfl rfl rfl rfl rfl ?_; refine AOps.nil ?_; refine onlyN_n ?_)
    refine AR.step1M (i := 80) rfl (by kernel_rfl) rfl ?_
    intro g_ hgro_ hw_
    (refine zm ?_; refine AOps.nil ?_; refine onlyN_n ?_)
    refine AR.readsM [81] (by kernel_rfl) (by kernel_rfl) (by kernel_rfl) (by kernel_rfl) ?_
    intro g_ hgro_
    show AOps .held _ _ _ [_] _ _
    (refine zl ?_; refine AOps.load_ball rfl rfl rfl rfl rfl ?_; (conv => rhs; simp only [Nf.all, Nat.reduceBEq, reduceAdd, reduceSub]); refine AOps.nil ?_; refine onlyN_n ?_)
    intro k_ hk_
    (try (conv => rhs; simp only [Nf.all, Nat.reduceBEq, reduceAdd, reduceSub]))
    refine AR.step1M (i := 82) rfl (by kernel_rfl) rfl ?_
    intro g_ hgro_ hw_
    
    (refine zl ?_; refine AOps.callp (aH2) (.cons rfl (.aggL (.cons (.pv _) (.cons (.pv _) (.cons (.pv _) (.cons (.pv _) .nil))))) (.cons rfl (.pv _) .nil)) rfl ?_; refine AOps.nil ?_; refine onlyN_n ?_)
    refine AR.step1M (i := 83) rfl (by kernel_rfl) rfl ?_
    intro g_ hgro_ hw_
    (refine zl ?_; refine zn ?_; refine AOps.nil ?_; refine onlyN_n ?_)
    refine AR.step1M (i := 84) rfl (by kernel_rfl) rfl ?_
    intro g_ hgro_ hw_
    (refine zl ?_; refine AOps.eql rfl rfl rfl rfl rfl ?_; refine AOps.nil ?_; refine onlyN_n ?_)
    refine AR.step1M (i := 85) rfl (by kernel_rfl) rfl ?_
    intro g_ hgro_ hw_
    (refine AOps.pick_lt rfl rfl rfl rfl rfl rfl ?_; refine AOps.nil ?_; refine onlyN_n ?_)
    refine AR.step1M (i := 86) rfl (by kernel_rfl) rfl ?_
    intro g_ hgro_ hw_
    (refine zm ?_; refine AOps.nil ?_; refine onlyN_n ?_)
    refine AR.step1M (i := 87) rfl (by kernel_rfl) rfl ?_
    intro g_ hgro_ hw_
    
    (refine zl ?_; refine AOps.callp (set_fn 2) (.cons rfl (.pv _) .nil) rfl ?_; refine AOps.nil ?_; refine onlyN_n ?_)
    refine AR.step1M (i := 88) rfl (by kernel_rfl) rfl ?_
    intro g_ hgro_ hw_
    (refine zl ?_; (focus ((with_reducible apply AOps.index_mapI); (iterate 7 exact rfl); omega; rotate_left; (first | omega | exact Nat.zero_lt_one | exact (by simp)))); refine AOps.nil ?_; refine onlyN_n ?_)
    refine AR.step1M (i := 89) rfl (by kernel_rfl) rfl ?_
    intro g_ hgro_ hw_
    (refine zl ?_; refine AOps.load_rn rfl rfl rfl rfl ?_; (conv => rhs; simp only [Nf.all, Nat.reduceBEq, reduceAdd, reduceSub]); refine AOps.nil ?_; refine onlyN_n ?_)
    refine AR.step1M (i := 90) rfl (by kernel_rfl) rfl ?_
    intro g_ hgro_ hw_
    
    (refine zl ?_; refine AOps.call (rvH) (.cons rfl (.pv _) (.cons rfl (.aggL (.cons (.pv _) (.cons (.pv _) .nil))) .nil)) rfl rfl (fun h_ => by cases h_) ?_; refine AOps.nil ?_; refine onlyN_n ?_)
    refine AR.step1M (i := 91) rfl (by kernel_rfl) rfl ?_
    intro g_ hgro_ hw_
    (refine AOps.pick_lt rfl rfl rfl rfl rfl rfl ?_; refine AOps.nil ?_; refine onlyN_n ?_)
    refine AR.step1M (i := 92) rfl (by kernel_rfl) rfl ?_
    intro g_ hgro_ hw_
    (refine zm ?_; refine AOps.nil ?_; refine onlyN_n ?_)
    refine AR.readsM [93,94] (by kernel_rfl) (by kernel_rfl) (by kernel_rfl) (by kernel_rfl) ?_
    intro g_ hgro_
    show AOps .held _ _ _ [_, _] _ _
    (refine zl ?_; refine AOps.fieldAddrN 33 0 0 rfl rfl rfl rfl ?_; refine zl ?_; (with_reducible apply AOps.load_bs); (iterate 3 exact rfl); (repeat' first | exact Sub.nil | apply Sub.take | apply Sub.skip); (iterate 3 exact rfl); refine AOps.nil ?_; refine onlyN_n ?_)
    intro k_ hk_
    (try (conv => rhs; simp only [Nf.all, Nat.reduceBEq, reduceAdd, reduceSub]))
    refine AR.step1M (i := 95) rfl (by kernel_rfl) rfl ?_
    intro g_ hgro_ hw_
    
    (refine zl ?_; refine AOps.call (atH) (.cons rfl (.aggL (.cons (.pv _) (.cons (.pv _) .nil))) .nil) rfl rfl (fun h_ => by cases h_) ?_; refine AOps.nil ?_; refine onlyN_n ?_)
    refine AR.step1M (i := 96) rfl (by kernel_rfl) rfl ?_
    intro g_ hgro_ hw_
    (refine zl ?_; refine AOps.eql rfl rfl rfl rfl rfl ?_; refine AOps.nil ?_; refine onlyN_n ?_)
    refine AR.step1M (i := 97) rfl (by kernel_rfl) rfl ?_
    intro g_ hgro_ hw_
    (refine AOps.pick_lt rfl rfl rfl rfl rfl rfl ?_; refine AOps.nil ?_; refine onlyN_n ?_)
    refine AR.step1LM (i := 98) rfl (by kernel_rfl) rfl (by kernel_rfl) ?_
    intro g_ hgro_ hwt2_
    (refine za ?_; refine AOps.nil ?_; refine onlyN_n ?_)
    refine AR.doneM (by assumption) (by kernel_rfl) ?_
    (refine thenD_n ?_; refine AW.ret ?_)
    (apply ends_ret; (exact Res.one (.tmp rfl rfl)); (refine Le.litB ?_; (rfl)))
end Go.Ab
