/- Chapter 20: unitprop's implied clauses. -/
import Derived.Test.YteilafbohdnekaaAmVL
import Derived.Test.YteilafbohdnekaaAbL2
set_option linter.unusedSimpArgs false
set_option linter.unusedVariables false
namespace Go.Ab
open Go Go.Proofs
open Nat (reduceAdd reduceSub)
set_option maxRecDepth 20000
set_option maxHeartbeats 4000000
attribute [local irreducible] AW AOps thenD inBlockD iterEnds roundEndsN inlEnds runM contraM
theorem within_neg {vars : Int} {l : List Int} (h : withinM vars l = true) : withinM vars (l.map fun x => 0 - x) = true := by
  unfold withinM
  rw [List.all_eq_true]
  intro x hx
  obtain ⟨y, hy, rfl⟩ := List.mem_map.1 hx
  have := withinM_spec h y hy
  simp; omega
theorem neg_map (l : List Int) : (l.map fun x => -x) = l.map fun x => 0 - x := by simp
theorem impl_fn (vars : Int) (cl : List (List Int)) (c : List Int) (hf : FOk vars cl) (hlc : c.length ≤ 100000) (hw : withinM vars c = true) :
    Fn Try.prog 50 [fml vars cl, .pv (ints c)] (litB (refImplM vars cl c)) := by
  have hs := sm_within hf.hv hw
  have hwn := within_neg hw
  have hsn := sm_neg hs
  have hln : (c.map fun x => 0 - x).length ≤ 100000 := by simpa using hlc
  have hcf := contra_fn _ hsn
  have hrf : contraM (c.map fun x => 0 - x) = false → _ := fun hc => prun_fn vars cl (c.map fun x => 0 - x) hf.hcl hf.h3 hf.hv hln hwn hc
  refine Fn.enter (n := 31) Try.func50 rfl rfl rfl rfl rfl (by decide) fun g hro_ hwt_ => ?_; (try (conv => rhs; simp only [Nf.all, Nat.reduceBEq, reduceAdd, reduceSub]))
  (refine zq ?_; refine AOps.box rfl rfl rfl rfl ?_; (conv => rhs; simp only [Nf.all, Nat.reduceBEq, reduceAdd, reduceSub]); refine za ?_; refine zd ?_; refine zq ?_; (conv => rhs; simp only [Nf.all, Nat.reduceBEq, reduceAdd, reduceSub]); refine za ?_; refine zd ?_; refine zo ?_; refine zq ?_; (conv => rhs; simp only [Nf.all, Nat.reduceBEq, reduceAdd, reduceSub]); refine zm ?_; refine zn ?_; refine zm ?_; refine zd ?_; refine AW.block ?_)
  refine AW.len_map 8 rfl fun hlen => ?_
  refine AW.loop (fun (k : Nat) => { n := 31, env := [(2, .ptr 0 0), (5, .own 1 3 1 (((c.take k).map fun x => 0 - x).map encI)), (8, .pv (ints c)), (9, litI c.length), (10, litI k)], objs := [(0, some (.box [litI vars, .pv (intss cl)])), (1, some .row)], nx := 2 })
    (fun k => k ≤ c.length) (fun k => c.length - k) 0 ?_ ?_ ?_
  · simp
  · exact weak rfl (by (first | (refine ⟨.eq rfl rfl, ?_⟩; refine ⟨.nilown _ _ _ rfl rfl, ?_⟩; (iterate 3 refine ⟨.eq rfl rfl, ?_⟩); exact trivial) | (refine ⟨.eq rfl rfl, ?_⟩; refine ⟨.freeze rfl, ?_⟩; (iterate 2 refine ⟨.eq rfl rfl, ?_⟩); exact trivial))) (by (first | (refine ⟨.box _ rfl ?_, ?_⟩; (iterate 2 refine ⟨.eq rfl rfl, ?_⟩); exact trivial; refine ⟨.newrow rfl, ?_⟩; exact trivial) | (refine ⟨.box _ rfl ?_, ?_⟩; (iterate 2 refine ⟨.eq rfl rfl, ?_⟩); (iterate 2 exact trivial)))) rfl
  rintro k hk
  have htl : (c.take k).length ≤ 100000 := by simp; omega
  by_cases hlt : k < c.length
  · have hx := hs _ (List.getElem_mem hlt)
    (refine zq ?_; refine zs ?_; refine zd ?_; refine zo ?_; refine zc ?_; refine AW.skip ?_; refine thenD_n ?_; refine zo ?_; refine AW.block ?_; refine zq ?_; (conv => rhs; simp only [Nf.all, Nat.reduceBEq, reduceAdd, reduceSub]); (focus ((with_reducible apply AOps.index_map); (iterate 7 exact rfl); rotate_left; omega)); refine zr ?_; refine za ?_; refine zd ?_; refine AW.region ?_; (conv => rhs; simp only [Nf.all, Nat.reduceBEq, reduceAdd, reduceSub]); refine AOps.move_own rfl rfl rfl ?_; refine zm ?_; refine AOps.neg rfl rfl rfl (by omega) ?_; refine AOps.bs1 rfl rfl rfl rfl rfl rfl rfl rfl ?_; (conv => rhs; simp only [Nf.all, Nat.reduceBEq, reduceAdd, reduceSub]); (with_reducible apply AOps.appendS); exact rfl; (first | exact .pv rfl | exact .own rfl | exact .nil rfl); (iterate 9 exact rfl); (first | omega | (simp only [List.length_map, List.length_append, List.length_cons, List.length_nil, List.length_drop, List.length_take, chunk_len]; omega)); (conv => rhs; simp only [Nf.all, Nat.reduceBEq, reduceAdd, reduceSub]); refine AOps.assign_own rfl rfl rfl ?_; refine AOps.nil ?_; refine inBlockD_n ?_; refine thenD_n ?_; refine AW.region ?_; (conv => rhs; simp only [Nf.all, Nat.reduceBEq, reduceAdd, reduceSub]); refine AOps.add rfl rfl rfl rfl rfl (by omega) ?_; refine zm ?_; refine zd ?_)
    exact ⟨k + 1, by omega, by omega, weak rfl (by (refine ⟨.eq rfl rfl, ?_⟩; refine ⟨.ownE (by first | with_reducible rfl | (rw [take_succ_get hlt, List.map_append, List.map_append]; show _ = _ ++ [encI (0 - c[k])]; rw [Int.zero_sub]; rfl)) rfl, ?_⟩; refine ⟨.pvE (by first | with_reducible rfl | (rw [take_succ_get hlt, List.map_append, List.map_append]; show _ = _ ++ [encI (0 - c[k])]; rw [Int.zero_sub]; rfl)), ?_⟩; refine ⟨.intE (by first | with_reducible rfl | (rw [take_succ_get hlt, List.map_append, List.map_append]; show _ = _ ++ [encI (0 - c[k])]; rw [Int.zero_sub]; rfl)), ?_⟩; refine ⟨.eq rfl rfl, ?_⟩; exact trivial)) (by (refine ⟨.box _ rfl ?_, ?_⟩; refine ⟨.intE (by first | with_reducible rfl | (rw [take_succ_get hlt, List.map_append, List.map_append]; show _ = _ ++ [encI (0 - c[k])]; rw [Int.zero_sub]; rfl)), ?_⟩; refine ⟨.pvE (by first | with_reducible rfl | (rw [take_succ_get hlt, List.map_append, List.map_append]; show _ = _ ++ [encI (0 - c[k])]; rw [Int.zero_sub]; rfl)), ?_⟩; exact trivial; refine ⟨.row rfl, ?_⟩; exact trivial)) rfl⟩
  · have hall : c.take k = c := take_all (by omega)
    rw [hall]
    cases hc : contraM (c.map fun x => 0 - x) with
    | true =>
      rw [hc] at hcf
      (refine zq ?_; refine zs ?_; refine zd ?_; refine zo ?_; refine zk ?_; refine AW.exit ?_; (iterate 2 refine thenD_exit ?_); refine inBlockD_exit ?_; refine thenD_n ?_; refine zq ?_; (conv => rhs; simp only [Nf.all, Nat.reduceBEq, reduceAdd, reduceSub]); refine AOps.move_own rfl rfl rfl ?_; refine AOps.call (hcf) (.cons rfl (.own _ _ _ _ rfl) .nil) rfl rfl (fun h_ => by cases h_) ?_; refine zm ?_; (iterate 7 refine AOps.guard_lf rfl rfl rfl rfl rfl rfl rfl ?_); refine AOps.pick_lt rfl rfl rfl rfl rfl rfl ?_; refine za ?_; refine zd ?_; refine AW.ret ?_)
      · (apply ends_ret; (exact Res.one (.tmp rfl rfl)); (refine Le.litB ?_; (rw [refImplM, if_pos hc])))
    | false =>
      have hr := hrf hc
      rw [hc] at hcf
      refine AW.weak (δ' := { n := 31, env := [(2, .ptr 0 0), (5, .pv (ints (c.map fun x => 0 - x))), (9, litI c.length), (10, litI k)], objs := [(0, some (.box [litI vars, .pv (intss cl)]))], nx := 2 }) (weak rfl (by (first | (refine ⟨.eq rfl rfl, ?_⟩; refine ⟨.nilown _ _ _ rfl rfl, ?_⟩; (iterate 3 refine ⟨.eq rfl rfl, ?_⟩); exact trivial) | (refine ⟨.eq rfl rfl, ?_⟩; refine ⟨.freeze rfl, ?_⟩; (iterate 2 refine ⟨.eq rfl rfl, ?_⟩); exact trivial))) (by (first | (refine ⟨.box _ rfl ?_, ?_⟩; (iterate 2 refine ⟨.eq rfl rfl, ?_⟩); exact trivial; refine ⟨.newrow rfl, ?_⟩; exact trivial) | (refine ⟨.box _ rfl ?_, ?_⟩; (iterate 2 refine ⟨.eq rfl rfl, ?_⟩); (iterate 2 exact trivial)))) rfl) ?_
      (refine zq ?_; refine zs ?_; refine zd ?_; refine zo ?_; refine zk ?_; refine AW.exit ?_; (iterate 2 refine thenD_exit ?_); refine inBlockD_exit ?_; refine thenD_n ?_; refine zq ?_; (conv => rhs; simp only [Nf.all, Nat.reduceBEq, reduceAdd, reduceSub]); refine zm ?_; refine AOps.call (hcf) (.cons rfl (.pv _) .nil) rfl rfl (fun h_ => by cases h_) ?_; refine zm ?_; refine zl ?_; refine AOps.load_ball rfl rfl rfl rfl rfl ?_; (conv => rhs; simp only [Nf.all, Nat.reduceBEq, reduceAdd, reduceSub]); refine zl ?_; refine zm ?_; refine zl ?_; refine AOps.callp (hr) (.cons rfl (.aggL (.cons (.pv _) (.cons (.pv _) .nil))) (.cons rfl (.pv _) .nil)) rfl ?_; refine zl ?_; refine AOps.nilCheck_rptr rfl rfl rfl ?_; refine zl ?_; refine AOps.fieldAddr_rN 82 4 5 1 rfl rfl rfl rfl ?_; (conv => rhs; simp only [Nf.all, Nat.reduceBEq, reduceAdd, reduceSub]); refine zl ?_; refine zr ?_; refine zl ?_; refine AOps.geq rfl rfl rfl rfl rfl ?_; refine AOps.pick_lf rfl rfl rfl rfl rfl rfl ?_; refine za ?_; refine zd ?_; refine AW.ret ?_)
      (apply ends_ret; (exact Res.one (.tmp rfl rfl)); (refine Le.litB ?_; (rw [refImplM, if_neg (by rw [hc]; simp)])))
end Go.Ab
