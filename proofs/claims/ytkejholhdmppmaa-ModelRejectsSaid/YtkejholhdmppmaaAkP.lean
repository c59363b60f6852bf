/- Chapter 07's examples: a set of one tuple, a trace. -/
import Derived.Test.YtkejholhdmppmaaAkO
import Derived.Test.YtkejholhdmppmaaAbL2
import Derived.Test.YtkejholhdmppmaaAkI
set_option linter.unusedSimpArgs false
set_option linter.unusedVariables false
namespace Go.Ab
open Go Go.Proofs
open Nat (reduceAdd reduceSub)
set_option maxRecDepth 20000
set_option maxHeartbeats 8000000
attribute [local irreducible] AW AOps thenD inBlockD AR iterEnds roundEndsN inlEnds noGotoD
theorem set_fn (x : Int) : Fn Try.prog 19 [litI x] (.pv (rels [(1, [x])])) := by
  refine Fn.enter (n := 7) Try.func19 rfl rfl rfl rfl rfl (by decide) fun g hro_ hwt_ => ?_; (try (conv => rhs; simp only [Nf.all, Nat.reduceBEq, reduceAdd, reduceSub]))
  (refine zq ?_; refine za ?_; refine zd ?_; refine zq ?_; (conv => rhs; simp only [Nf.all, Nat.reduceBEq, reduceAdd, reduceSub]); refine zm ?_; refine AOps.bs1 rfl rfl rfl rfl rfl rfl rfl rfl ?_; (conv => rhs; simp only [Nf.all, Nat.reduceBEq, reduceAdd, reduceSub]); refine AOps.buildN 42 [0, 1] rfl rfl rfl rfl rfl rfl rfl rfl rfl ?_; (conv => rhs; simp only [Nf.all, Nat.reduceBEq, reduceAdd, reduceSub]); refine AOps.frzB rfl rfl ?_; (conv => rhs; simp only [Nf.all, Nat.reduceBEq, reduceAdd, reduceSub]); refine AOps.bs1a2 rfl rfl rfl rfl rfl rfl rfl rfl rfl ?_; (conv => rhs; simp only [Nf.all, Nat.reduceBEq, reduceAdd, reduceSub]); refine AOps.assign_own rfl rfl rfl ?_; refine zd ?_; refine AW.ret ?_)
  (apply ends_ret; (exact Res.one (.tmp rfl rfl)); (exact Le.own _ _ _ _ rfl))
def trcM (lp : Int) (l : List Int) : ModM := ⟨[3], l.length, l.map fun x => [(1, [x])], lp⟩
theorem trace_fn (lp : Int) (l : List Int) (hl : l.length ≤ 1000) : Fn Try.prog 12 [litI lp, .pv (ints l)] (mdl (trcM lp l)) := by
  refine Fn.enter (n := 30) Try.func12 rfl rfl rfl rfl rfl (by decide) fun g hro_ hwt_ => ?_; (try (conv => rhs; simp only [Nf.all, Nat.reduceBEq, reduceAdd, reduceSub]))
  (refine zq ?_; refine AOps.allocN' rfl rfl rfl rfl ?_; (conv => rhs; simp only [Nf.all, Nat.reduceBEq, reduceAdd, reduceSub]); refine zd ?_; refine zq ?_; refine AOps.bs1 rfl rfl rfl rfl rfl rfl rfl rfl ?_; (conv => rhs; simp only [Nf.all, Nat.reduceBEq, reduceAdd, reduceSub]); refine zm ?_; refine zn ?_; refine AOps.buildN 30 [0, 1] rfl rfl rfl rfl rfl rfl rfl rfl rfl ?_; (conv => rhs; simp only [Nf.all, Nat.reduceBEq, reduceAdd, reduceSub]); refine zm ?_; refine AOps.buildN 33 [0, 3] rfl rfl rfl rfl rfl rfl rfl rfl rfl ?_; (conv => rhs; simp only [Nf.all, Nat.reduceBEq, reduceAdd, reduceSub]); refine AOps.allocN' rfl rfl rfl rfl ?_; (conv => rhs; simp only [Nf.all, Nat.reduceBEq, reduceAdd, reduceSub]); refine AOps.store_bn rfl rfl rfl rfl rfl rfl rfl rfl rfl (by with_reducible assumption) ?_; (conv => rhs; simp only [Nf.all, Nat.reduceBEq, reduceAdd, reduceSub]); refine zd ?_; refine zo ?_; refine zq ?_; refine za ?_; refine zd ?_; refine AW.block ?_)
  refine AW.loop (fun (k : Nat) => { n := 30, env := [(1, .pv (ints l)), (4, .ptr 0 0), (5, .ptr 2 0), (6, litI k)], objs := [(0, some (.box [.any, .any, .any, .any])), (1, some .row), (2, some (.box [.own 1 3 1 ([3].map encI), litI l.length, .own 3 36 1 ((l.take k).map fun x => [rels [(1, [x])]]), litI lp])), (3, some .row)], nx := 4 }) (fun k => k ≤ l.length) (fun k => l.length - k) 0 ?_ ?_ ?_
  · exact Nat.zero_le _
  · exact weak rfl (by (refine ⟨.eq rfl rfl, ?_⟩; (iterate 3 refine ⟨.eq rfl rfl, ?_⟩); exact trivial)) (by (refine ⟨.box _ rfl ?_, ?_⟩; (iterate 4 refine ⟨.any _, ?_⟩); exact trivial; refine ⟨.row rfl, ?_⟩; refine ⟨.box _ rfl ?_, ?_⟩; (iterate 2 refine ⟨.eq rfl rfl, ?_⟩); refine ⟨.nilown _ _ _ rfl rfl, ?_⟩; refine ⟨.eq rfl rfl, ?_⟩; exact trivial; refine ⟨.newrow rfl, ?_⟩; exact trivial)) rfl
  rintro k hk
  by_cases hlt : k < l.length
  · have hsf := set_fn l[k]
    have hts := take_succ_get hlt
    have htl := List.length_take_le k l
    (refine zo ?_; refine zq ?_; (iterate 2 refine zm ?_); refine zn ?_; refine zs ?_; refine zd ?_; refine zc ?_; refine AW.skip ?_; refine thenD_n ?_; refine zo ?_; refine AW.block ?_)
    refine AW.regionE [0,1,2,3,4,5] [10] rfl (by assumption) (by kernel_rfl) rfl ?_
    show AOps .held _ _ _ [_, _, _, _, _, _] _ _
    (refine AOps.fieldAddrN 33 1 2 rfl rfl rfl rfl ?_; refine zb ?_; (iterate 2 refine zm ?_); (focus ((with_reducible apply AOps.index_map); (iterate 7 exact rfl); rotate_left; omega)); refine zr ?_; refine AOps.nil ?_; refine onlyN_n ?_)
    intro k_ hk_
    (try (conv => rhs; simp only [Nf.all, Nat.reduceBEq, reduceAdd, reduceSub]))
    refine AR.step1 (i := 6) rfl (by kernel_rfl) rfl ?_
    intro g_ hgro_ hw_
    
    (refine AOps.callp (hsf) (.cons rfl (.pv _) .nil) rfl ?_; refine AOps.nil ?_; refine onlyN_n ?_)
    refine AR.step1 (i := 7) rfl (by kernel_rfl) rfl ?_
    intro g_ hgro_ hw_
    (refine AOps.bs1 rfl rfl rfl rfl rfl rfl rfl rfl ?_; (conv => rhs; simp only [Nf.all, Nat.reduceBEq, reduceAdd, reduceSub]); refine AOps.nil ?_; refine onlyN_n ?_)
    refine AR.step1 (i := 8) rfl (by kernel_rfl) rfl ?_
    intro g_ hgro_ hw_
    ((with_reducible apply AOps.appendS); exact rfl; (first | exact .pv rfl | exact .own rfl | exact .nil rfl); (iterate 9 exact rfl); (first | omega | (simp only [List.length_map, List.length_append, List.length_cons, List.length_nil, List.length_drop, List.length_take, chunk_len]; omega)); (conv => rhs; simp only [Nf.all, Nat.reduceBEq, reduceAdd, reduceSub]); refine AOps.nil ?_; refine onlyN_n ?_)
    refine AR.step1 (i := 9) rfl (by kernel_rfl) rfl ?_
    intro g_ hgro_ hw_
    (refine AOps.fieldAddrN 33 1 2 rfl rfl rfl rfl ?_; refine AOps.nil ?_; refine onlyN_n ?_)
    refine AR.step1L (i := 10) rfl (by kernel_rfl) rfl (by kernel_rfl) ?_
    intro g_ hgro_ hwt2_
    (refine AOps.store_b1 rfl rfl rfl rfl rfl rfl rfl rfl rfl (by with_reducible assumption) ?_; (conv => rhs; simp only [Nf.all, Nat.reduceBEq, reduceAdd, reduceSub]); refine AOps.nil ?_; refine onlyN_n ?_)
    refine AR.done (by assumption) (by kernel_rfl) ?_
    (refine inBlockD_n ?_; refine thenD_n ?_; refine AW.region ?_; refine zm ?_; refine AOps.add rfl rfl rfl rfl rfl (by omega) ?_; refine za ?_; refine zd ?_)
    exact ⟨k + 1, by omega, by omega, weak rfl (by (refine ⟨.pvE (by first | with_reducible rfl | (first | rfl | (rw [hts, List.map_append]; rfl))), ?_⟩; (iterate 2 refine ⟨.eq rfl rfl, ?_⟩); refine ⟨.intE (by first | with_reducible rfl | (first | rfl | (rw [hts, List.map_append]; rfl))), ?_⟩; exact trivial)) (by (refine ⟨.box _ rfl ?_, ?_⟩; (iterate 4 refine ⟨.any _, ?_⟩); exact trivial; refine ⟨.row rfl, ?_⟩; refine ⟨.box _ rfl ?_, ?_⟩; refine ⟨.ownE (by first | with_reducible rfl | (first | rfl | (rw [hts, List.map_append]; rfl))) rfl, ?_⟩; refine ⟨.intE (by first | with_reducible rfl | (first | rfl | (rw [hts, List.map_append]; rfl))), ?_⟩; refine ⟨.ownE (by first | with_reducible rfl | (first | rfl | (rw [hts, List.map_append]; rfl))) rfl, ?_⟩; refine ⟨.intE (by first | with_reducible rfl | (first | rfl | (rw [hts, List.map_append]; rfl))), ?_⟩; exact trivial; refine ⟨.row rfl, ?_⟩; exact trivial)) rfl⟩
  · rw [take_all (l := l) (by omega)]
    (refine zo ?_; refine zq ?_; (iterate 2 refine zm ?_); refine zn ?_; refine zs ?_; refine zd ?_; refine zk ?_; refine AW.exit ?_; (iterate 2 refine thenD_exit ?_); refine inBlockD_exit ?_; refine thenD_n ?_; refine zq ?_; (conv => rhs; simp only [Nf.all, Nat.reduceBEq, reduceAdd, reduceSub]); refine AOps.load_ball rfl rfl rfl rfl rfl ?_; (conv => rhs; simp only [Nf.all, Nat.reduceBEq, reduceAdd, reduceSub]); refine AOps.store_bn rfl rfl rfl rfl rfl rfl rfl rfl rfl (by with_reducible assumption) ?_; (conv => rhs; simp only [Nf.all, Nat.reduceBEq, reduceAdd, reduceSub]); refine zd ?_; refine AW.ret ?_)
    (apply ends_ret; (exact Res.one (.cell rfl rfl rfl rfl)); (refine Le.aggL ?_; refine LeL.cons ?_ ?_; exact Le.own _ _ _ _ rfl; refine LeL.cons ?_ ?_; refine Le.litI ?_; (first | rfl | simp [trcM]); refine LeL.cons ?_ ?_; refine Le.ownE ?_; (first | rfl | simp [trcM]); refine LeL.cons ?_ ?_; refine Le.litI ?_; (first | rfl | simp [trcM]); exact LeL.nil))
end Go.Ab
