/- Chapter 23: images of clauses, symmetries. -/
import Derived.Test.YteilafbohdnekaaAmC1
import Derived.Test.YteilafbohdnekaaAbL2
set_option linter.unusedSimpArgs false
set_option linter.unusedVariables false
namespace Go.Ab
open Go Go.Proofs
open Nat (reduceAdd reduceSub)
set_option maxRecDepth 20000
set_option maxHeartbeats 4000000
/-- the image of a literal under a symmetry. -/
def imgX (sym : List Int) (x : Int) : Int := if 0 < x then sym.getD (x - 1).toNat 0 else -(sym.getD (-x - 1).toNat 0)
def imgL (sym c : List Int) : List Int := c.map (imgX sym)
def imT (sym c : List Int) (i : Nat) : List Int := imgL sym (c.take i) ++ List.replicate (c.length - i) 0
theorem imT_zero (sym c : List Int) : imT sym c 0 = List.replicate c.length 0 := by unfold imT imgL; simp
theorem imT_len (sym c : List Int) {i : Nat} (hi : i ≤ c.length) : (imT sym c i).length = c.length := by unfold imT imgL; simp; omega
theorem imT_set {sym c : List Int} {i : Nat} (hi : i < c.length) {v : Int} (hv : v = imgX sym c[i]) : (imT sym c i).set i v = imT sym c (i + 1) := by
  subst hv
  unfold imT imgL
  rw [List.set_append_right _ _ (by rw [List.length_map, List.length_take]; omega), List.length_map, List.length_take, Nat.min_eq_left (by omega), Nat.sub_self, take_succ_get hi, List.map_append, List.append_assoc]
  congr 1
  obtain ⟨k, hk⟩ : ∃ k, c.length - i = k + 1 := ⟨c.length - i - 1, by omega⟩
  rw [hk, show c.length - (i + 1) = k by omega]
  rfl
theorem imT_all (sym c : List Int) {i : Nat} (hi : ¬ i < c.length) : imT sym c i = imgL sym c := by
  unfold imT
  rw [List.take_of_length_le (by omega), show c.length - i = 0 by omega]
  simp
theorem imgL_len (sym c : List Int) : (imgL sym c).length = c.length := by unfold imgL; simp
attribute [local irreducible] AW AOps thenD inBlockD AR iterEnds roundEndsN inlEnds noGotoD canon sortL compL compZ imT
theorem image_fn (sym c : List Int) (hs : Sm sym) (hl : sym.length ≤ 1000000) (hc : c.length ≤ 100000) (hw : withinM sym.length c = true) : Fn Try.prog 30 [.pv (ints sym), .pv (ints c)] (.pv (ints (imgL sym c))) := by
  have hb := withinM_spec hw
  refine Fn.enter (n := 40) Try.func30 rfl rfl rfl rfl rfl (by decide) fun g hro_ hwt_ => ?_; (try (conv => rhs; simp only [Nf.all, Nat.reduceBEq, reduceAdd, reduceSub]))
  (refine zq ?_; refine za ?_; refine zd ?_; refine zq ?_; (conv => rhs; simp only [Nf.all, Nat.reduceBEq, reduceAdd, reduceSub]); refine zm ?_; refine zn ?_; refine AOps.makeSlice1 rfl rfl rfl rfl rfl rfl rfl rfl rfl rfl (by omega) ?_; (conv => rhs; simp only [Nf.all, Nat.reduceBEq, reduceAdd, reduceSub]); refine AOps.assign_own rfl rfl rfl ?_; refine zd ?_; refine zo ?_; refine zq ?_; (conv => rhs; simp only [Nf.all, Nat.reduceBEq, reduceAdd, reduceSub]); refine zm ?_; refine zn ?_; refine zm ?_; refine zd ?_; refine AW.block ?_)

  ((conv => rhs; simp only [Nf.all, Nat.reduceBEq, reduceAdd, reduceSub]); apply AW.loopR [12, 11, 4, 0] [] (fun i : Nat => ([(5, .own 0 3 1 ((imT sym c i).map encI)), (13, litI i)] : List (Nat × AV))) (fun i : Nat => ([(0, some .row)] : List (Nat × Option Ob))) (fun i : Nat => i ≤ c.length) (fun i : Nat => c.length - i) (0); (conv => lhs; simp only [Nf.lpR, Nf.all, Nat.reduceBEq, reduceAdd, reduceSub]); (all_goals skip))
  · exact Nat.zero_le _
  · exact weak rfl (by (refine ⟨.ownE (by first | with_reducible rfl | (first | rfl | (rw [imT_zero, List.map_replicate]; rfl) | (show List.replicate _ _ = List.map encI _; rw [imT_zero, List.map_replicate, Int.toNat_natCast]; rfl))) rfl, ?_⟩; refine ⟨.intE (by first | with_reducible rfl | (first | rfl | (rw [imT_zero, List.map_replicate]; rfl) | (show List.replicate _ _ = List.map encI _; rw [imT_zero, List.map_replicate, Int.toNat_natCast]; rfl))), ?_⟩; refine ⟨.intE (by first | with_reducible rfl | (first | rfl | (rw [imT_zero, List.map_replicate]; rfl) | (show List.replicate _ _ = List.map encI _; rw [imT_zero, List.map_replicate, Int.toNat_natCast]; rfl))), ?_⟩; refine ⟨.pvE (by first | with_reducible rfl | (first | rfl | (rw [imT_zero, List.map_replicate]; rfl) | (show List.replicate _ _ = List.map encI _; rw [imT_zero, List.map_replicate, Int.toNat_natCast]; rfl))), ?_⟩; refine ⟨.eq rfl rfl, ?_⟩; refine ⟨.pvE (by first | with_reducible rfl | (first | rfl | (rw [imT_zero, List.map_replicate]; rfl) | (show List.replicate _ _ = List.map encI _; rw [imT_zero, List.map_replicate, Int.toNat_natCast]; rfl))), ?_⟩; exact trivial)) (by (refine ⟨.row rfl, ?_⟩; exact trivial)) rfl
  rintro i hi
  have htl := imT_len sym c hi
  by_cases hlt : i < c.length
  · obtain ⟨b1, b2, b3⟩ := hb _ (List.getElem_mem hlt)
    by_cases hp : 0 < c[i]
    · have hj : (c[i] - 1).toNat < sym.length := by omega
      have hj0 : 0 ≤ c[i] - 1 := by omega
      have hv : sym[(c[i] - 1).toNat] = imgX sym c[i] := by unfold imgX; rw [if_pos hp, List.getD_eq_getElem?_getD, List.getElem?_eq_getElem hj]; rfl
      have hse := imT_set hlt hv
      (refine zq ?_; refine zs ?_; refine zd ?_; refine zo ?_; refine zc ?_; refine AW.skip ?_; refine thenD_n ?_; refine zo ?_; refine AW.block ?_; refine zq ?_; (conv => rhs; simp only [Nf.all, Nat.reduceBEq, reduceAdd, reduceSub]); refine zm ?_; (focus ((with_reducible apply AOps.index_map); (iterate 7 exact rfl); rotate_left; omega)); refine zr ?_; (iterate 2 refine za ?_); refine zd ?_; refine zq ?_; (conv => rhs; simp only [Nf.all, Nat.reduceBEq, reduceAdd, reduceSub]); refine zm ?_; refine AOps.gtr rfl rfl rfl rfl rfl ?_; refine zd ?_; refine AW.condY rfl rfl (by with_reducible assumption) ?_; refine AW.region ?_; (conv => rhs; simp only [Nf.all, Nat.reduceBEq, reduceAdd, reduceSub]); refine AOps.move_own rfl rfl rfl ?_; (iterate 3 refine zm ?_); refine AOps.sub rfl rfl rfl rfl rfl (by omega) ?_; (focus ((with_reducible apply AOps.index_mapI); (iterate 7 exact rfl); omega; rotate_left; (first | omega | exact Nat.zero_lt_one | exact (by simp)))); refine zr ?_; refine AOps.index_own_mapN rfl rfl rfl rfl rfl rfl rfl (by omega) ?_; refine AOps.store_o1 rfl rfl rfl rfl rfl rfl rfl rfl ?_; refine AOps.nil ?_; refine inBlockD_n ?_; refine thenD_n ?_; refine AW.region ?_; (conv => rhs; simp only [Nf.all, Nat.reduceBEq, reduceAdd, reduceSub]); refine AOps.add rfl rfl rfl rfl rfl (by omega) ?_; refine zm ?_; refine zd ?_)
      exact ⟨i + 1, by omega, by omega, weak rfl (by (refine ⟨.ownE (by first | with_reducible rfl | (first | rfl | (rw [← hse, List.map_set]; rfl))) rfl, ?_⟩; refine ⟨.intE (by first | with_reducible rfl | (first | rfl | (rw [← hse, List.map_set]; rfl))), ?_⟩; refine ⟨.intE (by first | with_reducible rfl | (first | rfl | (rw [← hse, List.map_set]; rfl))), ?_⟩; refine ⟨.pvE (by first | with_reducible rfl | (first | rfl | (rw [← hse, List.map_set]; rfl))), ?_⟩; refine ⟨.eq rfl rfl, ?_⟩; refine ⟨.pvE (by first | with_reducible rfl | (first | rfl | (rw [← hse, List.map_set]; rfl))), ?_⟩; exact trivial)) (by (refine ⟨.row rfl, ?_⟩; exact trivial)) rfl⟩
    · have hj : (-c[i] - 1).toNat < sym.length := by omega
      have hj0 : 0 ≤ -c[i] - 1 := by omega
      have hsx := hs _ (List.getElem_mem hj)
      have hv : -sym[(-c[i] - 1).toNat] = imgX sym c[i] := by unfold imgX; rw [if_neg hp, List.getD_eq_getElem?_getD, List.getElem?_eq_getElem hj]; rfl
      have hse := imT_set hlt hv
      (refine zq ?_; refine zs ?_; refine zd ?_; refine zo ?_; refine zc ?_; refine AW.skip ?_; refine thenD_n ?_; refine zo ?_; refine AW.block ?_; refine zq ?_; (conv => rhs; simp only [Nf.all, Nat.reduceBEq, reduceAdd, reduceSub]); refine zm ?_; (focus ((with_reducible apply AOps.index_map); (iterate 7 exact rfl); rotate_left; omega)); refine zr ?_; (iterate 2 refine za ?_); refine zd ?_; refine zq ?_; (conv => rhs; simp only [Nf.all, Nat.reduceBEq, reduceAdd, reduceSub]); refine zm ?_; refine AOps.gtr rfl rfl rfl rfl rfl ?_; refine zd ?_; refine AW.condN rfl rfl (by with_reducible assumption) ?_; refine AW.region ?_; (conv => rhs; simp only [Nf.all, Nat.reduceBEq, reduceAdd, reduceSub]); refine AOps.move_own rfl rfl rfl ?_; (iterate 3 refine zm ?_); refine AOps.neg rfl rfl rfl (by omega) ?_; refine AOps.sub rfl rfl rfl rfl rfl (by omega) ?_; (focus ((with_reducible apply AOps.index_mapI); (iterate 7 exact rfl); omega; rotate_left; (first | omega | exact Nat.zero_lt_one | exact (by simp)))); refine zr ?_; refine AOps.neg rfl rfl rfl (by omega) ?_; refine AOps.index_own_mapN rfl rfl rfl rfl rfl rfl rfl (by omega) ?_; refine AOps.store_o1 rfl rfl rfl rfl rfl rfl rfl rfl ?_; refine AOps.nil ?_; refine inBlockD_n ?_; refine thenD_n ?_; refine AW.region ?_; (conv => rhs; simp only [Nf.all, Nat.reduceBEq, reduceAdd, reduceSub]); refine AOps.add rfl rfl rfl rfl rfl (by omega) ?_; refine zm ?_; refine zd ?_)
      exact ⟨i + 1, by omega, by omega, weak rfl (by (refine ⟨.ownE (by first | with_reducible rfl | (first | rfl | (rw [← hse, List.map_set]; rfl))) rfl, ?_⟩; refine ⟨.intE (by first | with_reducible rfl | (first | rfl | (rw [← hse, List.map_set]; rfl))), ?_⟩; refine ⟨.intE (by first | with_reducible rfl | (first | rfl | (rw [← hse, List.map_set]; rfl))), ?_⟩; refine ⟨.pvE (by first | with_reducible rfl | (first | rfl | (rw [← hse, List.map_set]; rfl))), ?_⟩; refine ⟨.eq rfl rfl, ?_⟩; refine ⟨.pvE (by first | with_reducible rfl | (first | rfl | (rw [← hse, List.map_set]; rfl))), ?_⟩; exact trivial)) (by (refine ⟨.row rfl, ?_⟩; exact trivial)) rfl⟩
  · rw [imT_all _ _ (by omega)]
    (refine zq ?_; refine zs ?_; refine zd ?_; refine zo ?_; refine zk ?_; refine AW.exit ?_; (iterate 2 refine thenD_exit ?_); refine inBlockD_exit ?_; refine thenD_n ?_; refine zq ?_; (conv => rhs; simp only [Nf.all, Nat.reduceBEq, reduceAdd, reduceSub]); refine AOps.move_own rfl rfl rfl ?_; refine AOps.assign_own rfl rfl rfl ?_; refine zd ?_; refine AW.ret ?_)
    (apply ends_ret; (exact Res.one (.tmp rfl rfl)); (exact Le.own _ _ _ _ rfl))
end Go.Ab
