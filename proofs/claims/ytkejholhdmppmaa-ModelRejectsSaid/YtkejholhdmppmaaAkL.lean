/- Chapter 06: difference and inclusion of relations. -/
import Derived.Test.YtkejholhdmppmaaAkK
import Derived.Test.YtkejholhdmppmaaAbL2
import Derived.Test.YtkejholhdmppmaaAbL3
set_option linter.unusedSimpArgs false
set_option linter.unusedVariables false
namespace Go.Ab
open Go Go.Proofs
open Nat (reduceAdd reduceSub)
set_option maxRecDepth 20000
set_option maxHeartbeats 4000000
/-- how often each number has come. -/
def cntL (ts : List Int) : List (Int × Int) := ts.foldl (fun l t => setL' l t (getL l t + 1)) []
theorem cntL_snoc {ts : List Int} {k : Nat} (hk : k < ts.length) : cntL (ts.take (k + 1)) = setL' (cntL (ts.take k)) ts[k] (getL (cntL (ts.take k)) ts[k] + 1) := by
  unfold cntL
  rw [take_succ_get hk, List.foldl_append]; rfl
theorem getL_cnt (ts : List Int) (x : Int) : getL (cntL ts) x = (ts.count x : Int) := by
  have key : ∀ (ts : List Int) (l : List (Int × Int)), getL (ts.foldl (fun l t => setL' l t (getL l t + 1)) l) x = getL l x + (ts.count x : Int) := by
    intro ts
    induction ts with
    | nil => intro l; simp
    | cons t ts ih =>
      intro l
      rw [List.foldl_cons, ih, getL_set]
      by_cases h : x = t
      · subst h; rw [if_pos rfl, List.count_cons_self]; omega
      · rw [if_neg h, List.count_cons_of_ne (fun e => h e.symm)]
  have := key ts []
  simpa [cntL, getL] using this
theorem getL_le (ts : List Int) (k : Nat) (x : Int) : 0 ≤ getL (cntL (ts.take k)) x ∧ getL (cntL (ts.take k)) x ≤ k := by
  rw [getL_cnt]
  have h1 := List.count_le_length (a := x) (l := ts.take k)
  have h2 := List.length_take_le k ts
  omega
theorem getL_pos (ts : List Int) (x : Int) : getL (cntL ts) x = 0 ↔ x ∉ ts := by
  rw [getL_cnt]
  constructor
  · intro h; exact List.count_eq_zero.1 (by omega)
  · intro h; rw [List.count_eq_zero.2 h]; rfl
def diffL (a b : List Int) : List Int := a.filter fun t => decide (t ∉ b)
theorem diffL_snoc {a b : List Int} {k : Nat} (hk : k < a.length) : diffL (a.take (k + 1)) b = diffL (a.take k) b ++ if a[k] ∉ b then [a[k]] else [] := by
  unfold diffL
  rw [take_succ_get hk, List.filter_append]
  by_cases h : a[k] ∈ b
  · simp [h]
  · simp [h]
theorem diffL_len (a b : List Int) (k : Nat) : (diffL (a.take k) b).length ≤ k := by
  unfold diffL
  exact Nat.le_trans (List.length_filter_le _ _) (List.length_take_le k a)
attribute [local irreducible] AW AOps thenD inBlockD AR iterEnds roundEndsN inlEnds noGotoD cntL diffL
theorem sameI_fn (t : Int) : Fn Try.prog 49 [litI t] (litI t) := by
  refine Fn.enter (n := 4) Try.func49 rfl rfl rfl rfl rfl (by decide) fun g hro_ hwt_ => ?_; (try (conv => rhs; simp only [Nf.all, Nat.reduceBEq, reduceAdd, reduceSub]))
  (refine zq ?_; refine za ?_; refine zd ?_; refine zq ?_; (conv => rhs; simp only [Nf.all, Nat.reduceBEq, reduceAdd, reduceSub]); refine zm ?_; refine za ?_; refine zd ?_; refine AW.ret ?_)
  (apply ends_ret; (exact Res.one (.tmp rfl rfl)); (refine Le.litI ?_; (rfl)))
theorem diff_fn (c : Int) (a : List Int) (d : Int) (b : List Int) (ha : a.length ≤ 1000000) (hb : b.length ≤ 1000000) : Fn Try.prog 41 [relA (c, a), relA (d, b)] (relA (c, diffL a b)) := by
  refine Fn.enter (n := 15) Try.func41 rfl rfl rfl rfl rfl (by decide) fun g hro_ hwt_ => ?_; (try (conv => rhs; simp only [Nf.all, Nat.reduceBEq, reduceAdd, reduceSub]))
  (refine zq ?_; refine AOps.box rfl rfl rfl rfl ?_; (conv => rhs; simp only [Nf.all, Nat.reduceBEq, reduceAdd, reduceSub]); refine AOps.box rfl rfl rfl rfl ?_; (conv => rhs; simp only [Nf.all, Nat.reduceBEq, reduceAdd, reduceSub]); refine AOps.allocN' rfl rfl rfl rfl ?_; (conv => rhs; simp only [Nf.all, Nat.reduceBEq, reduceAdd, reduceSub]); refine zd ?_; refine zq ?_; refine AOps.load_ball rfl rfl rfl rfl rfl ?_; (conv => rhs; simp only [Nf.all, Nat.reduceBEq, reduceAdd, reduceSub]); (with_reducible apply AOps.inline (hf := Try.func48)); (with_reducible assumption); (iterate 10 exact rfl); intro g_ hro_ hwt_; (conv => rhs; simp only [Nf.all, Nat.reduceBEq, reduceAdd, reduceSub]); refine zq ?_; refine AOps.box rfl rfl rfl rfl ?_; (conv => rhs; simp only [Nf.all, Nat.reduceBEq, reduceAdd, reduceSub]); refine za ?_; refine zd ?_; refine zq ?_; (conv => rhs; simp only [Nf.all, Nat.reduceBEq, reduceAdd, reduceSub]); refine AOps.makeCnt (t := 79) rfl ?_; (conv => rhs; simp only [Nf.all, Nat.reduceBEq, reduceAdd, reduceSub]); refine AOps.assign_mapr rfl rfl rfl ?_; refine zd ?_; refine zo ?_; refine zq ?_; (conv => rhs; simp only [Nf.all, Nat.reduceBEq, reduceAdd, reduceSub]); refine AOps.fieldAddrN 42 1 1 rfl rfl rfl rfl ?_; refine zb ?_; refine zn ?_; refine zm ?_; refine zd ?_; refine AW.block ?_)
  refine AW.loop (fun (k : Nat) => { n := 24, env := [(1, .clo (.func 49) [] []), (5, .mapr 4), (10, .pv (ints b)), (11, litI b.length), (12, litI k), (1002, .ptr 0 0), (1004, .ptr 2 0)], objs := [(0, some (.box [litI c, .pv (ints a)])), (2, some (.box [.any, .any])), (4, some (.mp (mpI (cntI (cntL (b.take k))))))], nx := 5 }) (fun k => k ≤ b.length) (fun k => b.length - k) 0 ?_ ?_ ?_
  · exact Nat.zero_le _
  · exact weak rfl (by (refine ⟨.eq rfl rfl, ?_⟩; refine ⟨.eq rfl rfl, ?_⟩; refine ⟨.pvE (by first | with_reducible rfl | (rfl)), ?_⟩; (iterate 2 refine ⟨.intE (by first | with_reducible rfl | (rfl)), ?_⟩); (iterate 2 refine ⟨.eq rfl rfl, ?_⟩); exact trivial)) (by (refine ⟨.box _ rfl ?_, ?_⟩; refine ⟨.intE (by first | with_reducible rfl | (rfl)), ?_⟩; refine ⟨.pvE (by first | with_reducible rfl | (rfl)), ?_⟩; exact trivial; refine ⟨.box _ rfl ?_, ?_⟩; (iterate 2 refine ⟨.any _, ?_⟩); exact trivial; refine ⟨.cntE rfl (by unfold cntL; rfl), ?_⟩; exact trivial)) rfl
  rintro k hk
  by_cases hlt : k < b.length
  · have hs := sameI_fn b[k]
    have hc := cntL_snoc hlt
    have hg := getL_le b k b[k]
    (refine zq ?_; refine zs ?_; refine zd ?_; refine zo ?_; refine zc ?_; refine AW.skip ?_; refine thenD_n ?_; refine zo ?_; refine AW.block ?_; refine zq ?_; (conv => rhs; simp only [Nf.all, Nat.reduceBEq, reduceAdd, reduceSub]); (focus ((with_reducible apply AOps.index_map); (iterate 7 exact rfl); rotate_left; omega)); refine zr ?_; refine za ?_; refine zd ?_; refine AW.region ?_; (conv => rhs; simp only [Nf.all, Nat.reduceBEq, reduceAdd, reduceSub]); refine AOps.move_mapr rfl rfl rfl ?_; refine AOps.move_clo rfl rfl rfl ?_; refine zm ?_; refine AOps.callT (hf := hs) rfl rfl (.cons rfl (.pv _) .nil) rfl rfl (fun h_ => by cases h_) ?_; refine AOps.lookup_cnt rfl rfl rfl rfl rfl rfl rfl rfl rfl ?_; refine AOps.add rfl rfl rfl rfl rfl (by omega) ?_; refine AOps.mapUpdate_cnt rfl rfl rfl rfl rfl rfl rfl rfl rfl rfl (by with_reducible assumption) ?_; (conv => rhs; simp only [Nf.all, Nat.reduceBEq, reduceAdd, reduceSub]); refine AOps.nil ?_; refine inBlockD_n ?_; refine thenD_n ?_; refine AW.region ?_; refine AOps.add rfl rfl rfl rfl rfl (by omega) ?_; refine zm ?_; refine zd ?_)
    exact ⟨k + 1, by omega, by omega, weak rfl (by (refine ⟨.eq rfl rfl, ?_⟩; refine ⟨.eq rfl rfl, ?_⟩; refine ⟨.pvE (by first | with_reducible rfl | (rfl)), ?_⟩; (iterate 2 refine ⟨.intE (by first | with_reducible rfl | (rfl)), ?_⟩); (iterate 2 refine ⟨.eq rfl rfl, ?_⟩); exact trivial)) (by (refine ⟨.box _ rfl ?_, ?_⟩; refine ⟨.intE (by first | with_reducible rfl | (rfl)), ?_⟩; refine ⟨.pvE (by first | with_reducible rfl | (rfl)), ?_⟩; exact trivial; refine ⟨.box _ rfl ?_, ?_⟩; (iterate 2 refine ⟨.any _, ?_⟩); exact trivial; refine ⟨.cntE rfl (by rw [hc]), ?_⟩; exact trivial)) rfl⟩
  · rw [take_all (l := b) (by omega)]
    have hp := getL_pos b
    (refine zq ?_; refine zs ?_; refine zd ?_; refine zo ?_; refine zk ?_; refine AW.exit ?_; (iterate 2 refine thenD_exit ?_); refine inBlockD_exit ?_; refine thenD_n ?_; refine zq ?_; (conv => rhs; simp only [Nf.all, Nat.reduceBEq, reduceAdd, reduceSub]); refine AOps.move_mapr rfl rfl rfl ?_; refine AOps.assign_mapr rfl rfl rfl ?_; refine zd ?_; refine AW.ret ?_; refine inlEnds_rmapr rfl rfl ?_; (conv => rhs; simp only [Nf.all, Nat.reduceBEq, reduceAdd, reduceSub]); refine AOps.allocN' rfl rfl rfl rfl ?_; (conv => rhs; simp only [Nf.all, Nat.reduceBEq, reduceAdd, reduceSub]); refine AOps.store_b1 rfl rfl rfl rfl rfl rfl rfl rfl rfl (by with_reducible assumption) ?_; (conv => rhs; simp only [Nf.all, Nat.reduceBEq, reduceAdd, reduceSub]); refine zd ?_; refine zo ?_)
    refine AW.cutT (δc := { n := 15, env := [(4, .ptr 2 0)], objs := [(2, some (.box [litI c, .pv (ints (diffL a b))]))], nx := 3 }) ?_ ?_
    · refine AW.regionE [2,3,4] [5,7] rfl (by assumption) (by kernel_rfl) rfl ?_
      show AOps .held _ _ _ [_, _, _] _ _
      (refine AOps.fieldAddrN 42 1 1 rfl rfl rfl rfl ?_; refine zb ?_; refine AOps.makeFunc_c rfl rfl rfl ?_; refine AOps.nil ?_; refine onlyN_n ?_)
      intro k_ hk_
      (try (conv => rhs; simp only [Nf.all, Nat.reduceBEq, reduceAdd, reduceSub]))
      refine AR.free 0 (by kernel_rfl) rfl rfl rfl (Frees.fieldAddr 42 0 0 rfl rfl rfl) ?_
      (try (conv => rhs; simp only [Nf.all, Nat.reduceBEq, reduceAdd, reduceSub]))
      refine AR.step2L (i := 1) (j := 5) rfl (by kernel_rfl) rfl rfl (by kernel_rfl) ?_ ?_ <;> intro g_ hgro_ hw_
      · (refine zb ?_; refine AOps.nil ?_; refine onlyN_n ?_)
        refine AR.step1L (i := 5) rfl (by kernel_rfl) rfl (by kernel_rfl) ?_
        intro g_ hgro_ hwt2_
        ((with_reducible apply AOps.inline (hf := Try.func50)); (with_reducible assumption); (iterate 10 exact rfl); intro g_ hro_ hwt_; (conv => rhs; simp only [Nf.all, Nat.reduceBEq, reduceAdd, reduceSub]); refine zq ?_; refine za ?_; refine zd ?_; refine zq ?_; (conv => rhs; simp only [Nf.all, Nat.reduceBEq, reduceAdd, reduceSub]); refine za ?_; refine zd ?_; refine zo ?_; refine zq ?_; (conv => rhs; simp only [Nf.all, Nat.reduceBEq, reduceAdd, reduceSub]); refine zm ?_; refine zn ?_; refine zm ?_; refine zd ?_; refine AW.block ?_)
        refine AW.loop (fun (k : Nat) => { n := 23, env := [(1, .clo (.func 51) [] [.ptr 5 0]), (5, .own 6 3 1 ((diffL (a.take k) b).map encI)), (8, .pv (ints a)), (9, litI a.length), (10, litI k), (1004, .ptr 2 0), (1009, litI c)], objs := [(0, some (.box [litI c, .pv (ints a)])), (2, some (.box [.any, .any])), (4, some (.mp (mpI (cntI (cntL b))))), (5, some (.box [.mapr 4])), (6, some .row)], nx := 7 }) (fun k => k ≤ a.length) (fun k => a.length - k) 0 ?_ ?_ ?_
        · exact Nat.zero_le _
        · exact weak rfl (by (refine ⟨.eq rfl rfl, ?_⟩; refine ⟨.nilownE (by unfold diffL; rfl) rfl rfl, ?_⟩; refine ⟨.pvE (by first | with_reducible rfl | (unfold diffL; rfl)), ?_⟩; refine ⟨.intE (by first | with_reducible rfl | (unfold diffL; rfl)), ?_⟩; (iterate 2 refine ⟨.eq rfl rfl, ?_⟩); refine ⟨.intE (by first | with_reducible rfl | (unfold diffL; rfl)), ?_⟩; exact trivial)) (by (refine ⟨.box _ rfl ?_, ?_⟩; refine ⟨.intE (by first | with_reducible rfl | (unfold diffL; rfl)), ?_⟩; refine ⟨.pvE (by first | with_reducible rfl | (unfold diffL; rfl)), ?_⟩; exact trivial; refine ⟨.box _ rfl ?_, ?_⟩; (iterate 2 refine ⟨.any _, ?_⟩); exact trivial; refine ⟨.cntE rfl (by rfl), ?_⟩; refine ⟨.box _ rfl ?_, ?_⟩; refine ⟨.eq rfl rfl, ?_⟩; exact trivial; refine ⟨.newrow rfl, ?_⟩; exact trivial)) rfl
        rintro k hk
        have hdl := diffL_len a b k
        by_cases hlt : k < a.length
        · have hsn := diffL_snoc (b := b) hlt
          have hpk := hp a[k]
          by_cases hq : getL (cntL b) a[k] = 0
          · rw [if_pos (hpk.1 hq)] at hsn
            (refine zq ?_; refine zs ?_; refine zd ?_; refine zo ?_; refine zc ?_; refine AW.skip ?_; refine thenD_n ?_; refine zo ?_; refine AW.block ?_; refine zq ?_; (conv => rhs; simp only [Nf.all, Nat.reduceBEq, reduceAdd, reduceSub]); (focus ((with_reducible apply AOps.index_map); (iterate 7 exact rfl); rotate_left; omega)); refine zr ?_; refine za ?_; refine zd ?_; refine zq ?_; (conv => rhs; simp only [Nf.all, Nat.reduceBEq, reduceAdd, reduceSub]); refine AOps.move_clo rfl rfl rfl ?_; refine zm ?_; (with_reducible apply AOps.inline (hf := Try.func51)); (with_reducible assumption); (iterate 10 exact rfl); intro g_ hro_ hwt_; (conv => rhs; simp only [Nf.all, Nat.reduceBEq, reduceAdd, reduceSub]); refine zq ?_; refine za ?_; refine zd ?_; refine zq ?_; (conv => rhs; simp only [Nf.all, Nat.reduceBEq, reduceAdd, reduceSub]); refine zb ?_; refine zm ?_; refine AOps.lookup_cnt rfl rfl rfl rfl rfl rfl rfl rfl rfl ?_; refine AOps.eql rfl rfl rfl rfl rfl ?_; refine za ?_; refine zd ?_; refine AW.ret ?_; refine inlEnds_rpv rfl rfl ?_; (conv => rhs; simp only [Nf.all, Nat.reduceBEq, reduceAdd, reduceSub]); refine zd ?_; refine AW.condY rfl rfl (by with_reducible assumption) ?_; refine AW.region ?_; refine AOps.move_own rfl rfl rfl ?_; refine zm ?_; refine AOps.bs1 rfl rfl rfl rfl rfl rfl rfl rfl ?_; (conv => rhs; simp only [Nf.all, Nat.reduceBEq, reduceAdd, reduceSub]); (with_reducible apply AOps.appendS); exact rfl; (first | exact .pv rfl | exact .own rfl | exact .nil rfl); (iterate 9 exact rfl); (first | omega | (simp only [List.length_map, List.length_append, List.length_cons, List.length_nil, List.length_drop, List.length_take, chunk_len]; omega)); (conv => rhs; simp only [Nf.all, Nat.reduceBEq, reduceAdd, reduceSub]); refine AOps.assign_own rfl rfl rfl ?_; refine AOps.nil ?_; refine inBlockD_n ?_; refine thenD_n ?_; refine AW.region ?_; (conv => rhs; simp only [Nf.all, Nat.reduceBEq, reduceAdd, reduceSub]); refine AOps.add rfl rfl rfl rfl rfl (by omega) ?_; refine zm ?_; refine zd ?_)
            exact ⟨k + 1, by omega, by omega, weak rfl (by (refine ⟨.eq rfl rfl, ?_⟩; refine ⟨.ownE (by first | with_reducible rfl | (first | (rw [hsn, List.map_append]; rfl) | rfl)) rfl, ?_⟩; refine ⟨.pvE (by first | with_reducible rfl | (first | (rw [hsn, List.map_append]; rfl) | rfl)), ?_⟩; refine ⟨.intE (by first | with_reducible rfl | (first | (rw [hsn, List.map_append]; rfl) | rfl)), ?_⟩; refine ⟨.intE (by first | with_reducible rfl | (first | (rw [hsn, List.map_append]; rfl) | rfl)), ?_⟩; refine ⟨.eq rfl rfl, ?_⟩; refine ⟨.intE (by first | with_reducible rfl | (first | (rw [hsn, List.map_append]; rfl) | rfl)), ?_⟩; exact trivial)) (by (refine ⟨.box _ rfl ?_, ?_⟩; refine ⟨.intE (by first | with_reducible rfl | (first | (rw [hsn, List.map_append]; rfl) | rfl)), ?_⟩; refine ⟨.pvE (by first | with_reducible rfl | (first | (rw [hsn, List.map_append]; rfl) | rfl)), ?_⟩; exact trivial; refine ⟨.box _ rfl ?_, ?_⟩; (iterate 2 refine ⟨.any _, ?_⟩); exact trivial; refine ⟨.cntE rfl (by rfl), ?_⟩; refine ⟨.box _ rfl ?_, ?_⟩; refine ⟨.eq rfl rfl, ?_⟩; exact trivial; refine ⟨.row rfl, ?_⟩; exact trivial)) rfl⟩
          · rw [if_neg (fun h => hq (hpk.2 h)), List.append_nil] at hsn
            (refine zq ?_; refine zs ?_; refine zd ?_; refine zo ?_; refine zc ?_; refine AW.skip ?_; refine thenD_n ?_; refine zo ?_; refine AW.block ?_; refine zq ?_; (conv => rhs; simp only [Nf.all, Nat.reduceBEq, reduceAdd, reduceSub]); (focus ((with_reducible apply AOps.index_map); (iterate 7 exact rfl); rotate_left; omega)); refine zr ?_; refine za ?_; refine zd ?_; refine zq ?_; (conv => rhs; simp only [Nf.all, Nat.reduceBEq, reduceAdd, reduceSub]); refine AOps.move_clo rfl rfl rfl ?_; refine zm ?_; (with_reducible apply AOps.inline (hf := Try.func51)); (with_reducible assumption); (iterate 10 exact rfl); intro g_ hro_ hwt_; (conv => rhs; simp only [Nf.all, Nat.reduceBEq, reduceAdd, reduceSub]); refine zq ?_; refine za ?_; refine zd ?_; refine zq ?_; (conv => rhs; simp only [Nf.all, Nat.reduceBEq, reduceAdd, reduceSub]); refine zb ?_; refine zm ?_; refine AOps.lookup_cnt rfl rfl rfl rfl rfl rfl rfl rfl rfl ?_; refine AOps.eql rfl rfl rfl rfl rfl ?_; refine za ?_; refine zd ?_; refine AW.ret ?_; refine inlEnds_rpv rfl rfl ?_; (conv => rhs; simp only [Nf.all, Nat.reduceBEq, reduceAdd, reduceSub]); refine zd ?_; refine AW.condN rfl rfl (by with_reducible assumption) ?_; refine AW.skip ?_; refine inBlockD_n ?_; refine thenD_n ?_; refine AW.region ?_; refine AOps.add rfl rfl rfl rfl rfl (by omega) ?_; refine zm ?_; refine zd ?_)
            exact ⟨k + 1, by omega, by omega, weak rfl (by (refine ⟨.eq rfl rfl, ?_⟩; refine ⟨.ownE (by first | with_reducible rfl | (first | (rw [hsn]) | rfl)) rfl, ?_⟩; refine ⟨.pvE (by first | with_reducible rfl | (first | (rw [hsn]) | rfl)), ?_⟩; refine ⟨.intE (by first | with_reducible rfl | (first | (rw [hsn]) | rfl)), ?_⟩; refine ⟨.intE (by first | with_reducible rfl | (first | (rw [hsn]) | rfl)), ?_⟩; refine ⟨.eq rfl rfl, ?_⟩; refine ⟨.intE (by first | with_reducible rfl | (first | (rw [hsn]) | rfl)), ?_⟩; exact trivial)) (by (refine ⟨.box _ rfl ?_, ?_⟩; refine ⟨.intE (by first | with_reducible rfl | (first | (rw [hsn]) | rfl)), ?_⟩; refine ⟨.pvE (by first | with_reducible rfl | (first | (rw [hsn]) | rfl)), ?_⟩; exact trivial; refine ⟨.box _ rfl ?_, ?_⟩; (iterate 2 refine ⟨.any _, ?_⟩); exact trivial; refine ⟨.cntE rfl (by rfl), ?_⟩; refine ⟨.box _ rfl ?_, ?_⟩; refine ⟨.eq rfl rfl, ?_⟩; exact trivial; refine ⟨.row rfl, ?_⟩; exact trivial)) rfl⟩
        · rw [take_all (l := a) (by omega)]
          (refine zq ?_; refine zs ?_; refine zd ?_; refine zo ?_; refine zk ?_; refine AW.exit ?_; (iterate 2 refine thenD_exit ?_); refine inBlockD_exit ?_; refine thenD_n ?_; refine zq ?_; (conv => rhs; simp only [Nf.all, Nat.reduceBEq, reduceAdd, reduceSub]); refine AOps.move_own rfl rfl rfl ?_; refine AOps.assign_own rfl rfl rfl ?_; refine zd ?_; refine AW.ret ?_; refine inlEnds_rown rfl rfl ?_; (conv => rhs; simp only [Nf.all, Nat.reduceBEq, reduceAdd, reduceSub]); refine AOps.nil ?_; refine onlyN_n ?_)
        
          refine AR.step1 (i := 6) rfl (by kernel_rfl) rfl ?_
          intro g_ hgro_ hw_
          (refine AOps.buildN 42 [0, 1] rfl rfl rfl rfl rfl rfl rfl rfl rfl ?_; (conv => rhs; simp only [Nf.all, Nat.reduceBEq, reduceAdd, reduceSub]); refine AOps.nil ?_; refine onlyN_n ?_)
          refine AR.step1L (i := 7) rfl (by kernel_rfl) rfl (by kernel_rfl) ?_
          intro g_ hgro_ hwt2_
          (refine AOps.store_bn rfl rfl rfl rfl rfl rfl rfl rfl rfl (by with_reducible assumption) ?_; (conv => rhs; simp only [Nf.all, Nat.reduceBEq, reduceAdd, reduceSub]); refine AOps.nil ?_; refine onlyN_n ?_)
          refine AR.done (by assumption) (by kernel_rfl) ?_
          show Weak _ _ _
          exact weak rfl (by (refine ⟨.eq rfl rfl, ?_⟩; exact trivial)) (by (refine ⟨.box _ rfl ?_, ?_⟩; refine ⟨.eq rfl rfl, ?_⟩; refine ⟨.freeze rfl, ?_⟩; (iterate 2 exact trivial))) rfl
      · ((with_reducible apply AOps.inline (hf := Try.func50)); (with_reducible assumption); (iterate 10 exact rfl); intro g_ hro_ hwt_; (conv => rhs; simp only [Nf.all, Nat.reduceBEq, reduceAdd, reduceSub]); refine zq ?_; refine za ?_; refine zd ?_; refine zq ?_; (conv => rhs; simp only [Nf.all, Nat.reduceBEq, reduceAdd, reduceSub]); refine za ?_; refine zd ?_; refine zo ?_; refine zq ?_; (conv => rhs; simp only [Nf.all, Nat.reduceBEq, reduceAdd, reduceSub]); refine zm ?_; refine zn ?_; refine zm ?_; refine zd ?_; refine AW.block ?_)
        refine AW.loop (fun (k : Nat) => { n := 23, env := [(1, .clo (.func 51) [] [.ptr 5 0]), (5, .own 6 3 1 ((diffL (a.take k) b).map encI)), (8, .pv (ints a)), (9, litI a.length), (10, litI k), (1004, .ptr 2 0), (1008, .ptr 0 0)], objs := [(0, some (.box [litI c, .pv (ints a)])), (2, some (.box [.any, .any])), (4, some (.mp (mpI (cntI (cntL b))))), (5, some (.box [.mapr 4])), (6, some .row)], nx := 7 }) (fun k => k ≤ a.length) (fun k => a.length - k) 0 ?_ ?_ ?_
        · exact Nat.zero_le _
        · exact weak rfl (by (refine ⟨.eq rfl rfl, ?_⟩; refine ⟨.nilownE (by unfold diffL; rfl) rfl rfl, ?_⟩; refine ⟨.pvE (by first | with_reducible rfl | (unfold diffL; rfl)), ?_⟩; refine ⟨.intE (by first | with_reducible rfl | (unfold diffL; rfl)), ?_⟩; (iterate 3 refine ⟨.eq rfl rfl, ?_⟩); exact trivial)) (by (refine ⟨.box _ rfl ?_, ?_⟩; refine ⟨.intE (by first | with_reducible rfl | (unfold diffL; rfl)), ?_⟩; refine ⟨.pvE (by first | with_reducible rfl | (unfold diffL; rfl)), ?_⟩; exact trivial; refine ⟨.box _ rfl ?_, ?_⟩; (iterate 2 refine ⟨.any _, ?_⟩); exact trivial; refine ⟨.cntE rfl (by rfl), ?_⟩; refine ⟨.box _ rfl ?_, ?_⟩; refine ⟨.eq rfl rfl, ?_⟩; exact trivial; refine ⟨.newrow rfl, ?_⟩; exact trivial)) rfl
        rintro k hk
        have hdl := diffL_len a b k
        by_cases hlt : k < a.length
        · have hsn := diffL_snoc (b := b) hlt
          have hpk := hp a[k]
          by_cases hq : getL (cntL b) a[k] = 0
          · rw [if_pos (hpk.1 hq)] at hsn
            (refine zq ?_; refine zs ?_; refine zd ?_; refine zo ?_; refine zc ?_; refine AW.skip ?_; refine thenD_n ?_; refine zo ?_; refine AW.block ?_; refine zq ?_; (conv => rhs; simp only [Nf.all, Nat.reduceBEq, reduceAdd, reduceSub]); (focus ((with_reducible apply AOps.index_map); (iterate 7 exact rfl); rotate_left; omega)); refine zr ?_; refine za ?_; refine zd ?_; refine zq ?_; (conv => rhs; simp only [Nf.all, Nat.reduceBEq, reduceAdd, reduceSub]); refine AOps.move_clo rfl rfl rfl ?_; refine zm ?_; (with_reducible apply AOps.inline (hf := Try.func51)); (with_reducible assumption); (iterate 10 exact rfl); intro g_ hro_ hwt_; (conv => rhs; simp only [Nf.all, Nat.reduceBEq, reduceAdd, reduceSub]); refine zq ?_; refine za ?_; refine zd ?_; refine zq ?_; (conv => rhs; simp only [Nf.all, Nat.reduceBEq, reduceAdd, reduceSub]); refine zb ?_; refine zm ?_; refine AOps.lookup_cnt rfl rfl rfl rfl rfl rfl rfl rfl rfl ?_; refine AOps.eql rfl rfl rfl rfl rfl ?_; refine za ?_; refine zd ?_; refine AW.ret ?_; refine inlEnds_rpv rfl rfl ?_; (conv => rhs; simp only [Nf.all, Nat.reduceBEq, reduceAdd, reduceSub]); refine zd ?_; refine AW.condY rfl rfl (by with_reducible assumption) ?_; refine AW.region ?_; refine AOps.move_own rfl rfl rfl ?_; refine zm ?_; refine AOps.bs1 rfl rfl rfl rfl rfl rfl rfl rfl ?_; (conv => rhs; simp only [Nf.all, Nat.reduceBEq, reduceAdd, reduceSub]); (with_reducible apply AOps.appendS); exact rfl; (first | exact .pv rfl | exact .own rfl | exact .nil rfl); (iterate 9 exact rfl); (first | omega | (simp only [List.length_map, List.length_append, List.length_cons, List.length_nil, List.length_drop, List.length_take, chunk_len]; omega)); (conv => rhs; simp only [Nf.all, Nat.reduceBEq, reduceAdd, reduceSub]); refine AOps.assign_own rfl rfl rfl ?_; refine AOps.nil ?_; refine inBlockD_n ?_; refine thenD_n ?_; refine AW.region ?_; (conv => rhs; simp only [Nf.all, Nat.reduceBEq, reduceAdd, reduceSub]); refine AOps.add rfl rfl rfl rfl rfl (by omega) ?_; refine zm ?_; refine zd ?_)
            exact ⟨k + 1, by omega, by omega, weak rfl (by (refine ⟨.eq rfl rfl, ?_⟩; refine ⟨.ownE (by first | with_reducible rfl | (first | (rw [hsn, List.map_append]; rfl) | rfl)) rfl, ?_⟩; refine ⟨.pvE (by first | with_reducible rfl | (first | (rw [hsn, List.map_append]; rfl) | rfl)), ?_⟩; refine ⟨.intE (by first | with_reducible rfl | (first | (rw [hsn, List.map_append]; rfl) | rfl)), ?_⟩; refine ⟨.intE (by first | with_reducible rfl | (first | (rw [hsn, List.map_append]; rfl) | rfl)), ?_⟩; (iterate 2 refine ⟨.eq rfl rfl, ?_⟩); exact trivial)) (by (refine ⟨.box _ rfl ?_, ?_⟩; refine ⟨.intE (by first | with_reducible rfl | (first | (rw [hsn, List.map_append]; rfl) | rfl)), ?_⟩; refine ⟨.pvE (by first | with_reducible rfl | (first | (rw [hsn, List.map_append]; rfl) | rfl)), ?_⟩; exact trivial; refine ⟨.box _ rfl ?_, ?_⟩; (iterate 2 refine ⟨.any _, ?_⟩); exact trivial; refine ⟨.cntE rfl (by rfl), ?_⟩; refine ⟨.box _ rfl ?_, ?_⟩; refine ⟨.eq rfl rfl, ?_⟩; exact trivial; refine ⟨.row rfl, ?_⟩; exact trivial)) rfl⟩
          · rw [if_neg (fun h => hq (hpk.2 h)), List.append_nil] at hsn
            (refine zq ?_; refine zs ?_; refine zd ?_; refine zo ?_; refine zc ?_; refine AW.skip ?_; refine thenD_n ?_; refine zo ?_; refine AW.block ?_; refine zq ?_; (conv => rhs; simp only [Nf.all, Nat.reduceBEq, reduceAdd, reduceSub]); (focus ((with_reducible apply AOps.index_map); (iterate 7 exact rfl); rotate_left; omega)); refine zr ?_; refine za ?_; refine zd ?_; refine zq ?_; (conv => rhs; simp only [Nf.all, Nat.reduceBEq, reduceAdd, reduceSub]); refine AOps.move_clo rfl rfl rfl ?_; refine zm ?_; (with_reducible apply AOps.inline (hf := Try.func51)); (with_reducible assumption); (iterate 10 exact rfl); intro g_ hro_ hwt_; (conv => rhs; simp only [Nf.all, Nat.reduceBEq, reduceAdd, reduceSub]); refine zq ?_; refine za ?_; refine zd ?_; refine zq ?_; (conv => rhs; simp only [Nf.all, Nat.reduceBEq, reduceAdd, reduceSub]); refine zb ?_; refine zm ?_; refine AOps.lookup_cnt rfl rfl rfl rfl rfl rfl rfl rfl rfl ?_; refine AOps.eql rfl rfl rfl rfl rfl ?_; refine za ?_; refine zd ?_; refine AW.ret ?_; refine inlEnds_rpv rfl rfl ?_; (conv => rhs; simp only [Nf.all, Nat.reduceBEq, reduceAdd, reduceSub]); refine zd ?_; refine AW.condN rfl rfl (by with_reducible assumption) ?_; refine AW.skip ?_; refine inBlockD_n ?_; refine thenD_n ?_; refine AW.region ?_; refine AOps.add rfl rfl rfl rfl rfl (by omega) ?_; refine zm ?_; refine zd ?_)
            exact ⟨k + 1, by omega, by omega, weak rfl (by (refine ⟨.eq rfl rfl, ?_⟩; refine ⟨.ownE (by first | with_reducible rfl | (first | (rw [hsn]) | rfl)) rfl, ?_⟩; refine ⟨.pvE (by first | with_reducible rfl | (first | (rw [hsn]) | rfl)), ?_⟩; refine ⟨.intE (by first | with_reducible rfl | (first | (rw [hsn]) | rfl)), ?_⟩; refine ⟨.intE (by first | with_reducible rfl | (first | (rw [hsn]) | rfl)), ?_⟩; (iterate 2 refine ⟨.eq rfl rfl, ?_⟩); exact trivial)) (by (refine ⟨.box _ rfl ?_, ?_⟩; refine ⟨.intE (by first | with_reducible rfl | (first | (rw [hsn]) | rfl)), ?_⟩; refine ⟨.pvE (by first | with_reducible rfl | (first | (rw [hsn]) | rfl)), ?_⟩; exact trivial; refine ⟨.box _ rfl ?_, ?_⟩; (iterate 2 refine ⟨.any _, ?_⟩); exact trivial; refine ⟨.cntE rfl (by rfl), ?_⟩; refine ⟨.box _ rfl ?_, ?_⟩; refine ⟨.eq rfl rfl, ?_⟩; exact trivial; refine ⟨.row rfl, ?_⟩; exact trivial)) rfl⟩
        · rw [take_all (l := a) (by omega)]
          (refine zq ?_; refine zs ?_; refine zd ?_; refine zo ?_; refine zk ?_; refine AW.exit ?_; (iterate 2 refine thenD_exit ?_); refine inBlockD_exit ?_; refine thenD_n ?_; refine zq ?_; (conv => rhs; simp only [Nf.all, Nat.reduceBEq, reduceAdd, reduceSub]); refine AOps.move_own rfl rfl rfl ?_; refine AOps.assign_own rfl rfl rfl ?_; refine zd ?_; refine AW.ret ?_; refine inlEnds_rown rfl rfl ?_; (conv => rhs; simp only [Nf.all, Nat.reduceBEq, reduceAdd, reduceSub]); refine AOps.nil ?_; refine onlyN_n ?_)
          refine AR.step1 (i := 1) rfl (by kernel_rfl) rfl ?_
          intro g_ hgro_ hw_
          (refine zb ?_; refine AOps.nil ?_; refine onlyN_n ?_)
          refine AR.step1 (i := 6) rfl (by kernel_rfl) rfl ?_
          intro g_ hgro_ hw_
          (refine AOps.buildN 42 [0, 1] rfl rfl rfl rfl rfl rfl rfl rfl rfl ?_; (conv => rhs; simp only [Nf.all, Nat.reduceBEq, reduceAdd, reduceSub]); refine AOps.nil ?_; refine onlyN_n ?_)
          refine AR.step1L (i := 7) rfl (by kernel_rfl) rfl (by kernel_rfl) ?_
          intro g_ hgro_ hwt2_
          (refine AOps.store_bn rfl rfl rfl rfl rfl rfl rfl rfl rfl (by with_reducible assumption) ?_; (conv => rhs; simp only [Nf.all, Nat.reduceBEq, reduceAdd, reduceSub]); refine AOps.nil ?_; refine onlyN_n ?_)
          refine AR.done (by assumption) (by kernel_rfl) ?_
          show Weak _ _ _
          exact weak rfl (by (refine ⟨.eq rfl rfl, ?_⟩; exact trivial)) (by (refine ⟨.box _ rfl ?_, ?_⟩; refine ⟨.eq rfl rfl, ?_⟩; refine ⟨.freeze rfl, ?_⟩; (iterate 2 exact trivial))) rfl
    · (refine AW.ret ?_)
      (apply ends_ret; (exact Res.one (.cell rfl rfl rfl rfl)); (refine Le.aggL ?_; refine LeL.cons ?_ ?_; (with_reducible exact Le.pv _); refine LeL.cons ?_ ?_; (with_reducible exact Le.pv _); exact LeL.nil))
/-- inclusion. -/
def subL (a b : List Int) : Bool := a.all fun t => decide (t ∈ b)
theorem subL_diff (a b : List Int) : decide (((diffL a b).length : Int) = 0) = subL a b := by
  unfold diffL subL
  rw [Bool.eq_iff_iff, decide_eq_true_eq, List.all_eq_true]
  constructor
  · intro h x hx
    have h1 : a.filter (fun t => decide (t ∉ b)) = [] := List.eq_nil_of_length_eq_zero (by omega)
    have := List.filter_eq_nil_iff.1 h1 x hx
    simpa using this
  · intro h
    have : a.filter (fun t => decide (t ∉ b)) = [] := List.filter_eq_nil_iff.2 fun x hx => by simpa using h x hx
    rw [this]; rfl
theorem in_fn (c : Int) (a : List Int) (d : Int) (b : List Int) (ha : a.length ≤ 1000000) (hb : b.length ≤ 1000000) : Fn Try.prog 23 [relA (c, a), relA (d, b)] (litB (subL a b)) := by
  have hd := diff_fn c a d b ha hb
  have hs := subL_diff a b
  refine Fn.enter (n := 11) Try.func23 rfl rfl rfl rfl rfl (by decide) fun g hro_ hwt_ => ?_; (try (conv => rhs; simp only [Nf.all, Nat.reduceBEq, reduceAdd, reduceSub]))
  (refine zq ?_; refine AOps.box rfl rfl rfl rfl ?_; (conv => rhs; simp only [Nf.all, Nat.reduceBEq, reduceAdd, reduceSub]); refine AOps.box rfl rfl rfl rfl ?_; (conv => rhs; simp only [Nf.all, Nat.reduceBEq, reduceAdd, reduceSub]); refine za ?_; refine zd ?_; refine zq ?_; (conv => rhs; simp only [Nf.all, Nat.reduceBEq, reduceAdd, reduceSub]); refine AOps.load_ball rfl rfl rfl rfl rfl ?_; (conv => rhs; simp only [Nf.all, Nat.reduceBEq, reduceAdd, reduceSub]); refine AOps.load_ball rfl rfl rfl rfl rfl ?_; (conv => rhs; simp only [Nf.all, Nat.reduceBEq, reduceAdd, reduceSub]); refine AOps.callp (hd) (.cons rfl (.aggL (.cons (.pv _) (.cons (.pv _) .nil))) (.cons rfl (.aggL (.cons (.pv _) (.cons (.pv _) .nil))) .nil)) rfl ?_; refine AOps.field1N 42 1 1 rfl rfl rfl rfl rfl ?_; refine zn ?_; refine AOps.eql rfl rfl rfl rfl rfl ?_; refine za ?_; refine zd ?_; refine AW.ret ?_)
  (apply ends_ret; (exact Res.one (.tmp rfl rfl)); (refine Le.litB ?_; (exact hs)))
end Go.Ab
