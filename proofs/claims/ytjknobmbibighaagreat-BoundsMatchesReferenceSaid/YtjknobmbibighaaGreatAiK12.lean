/- Chapter 09: the free tuples, by Go's binary search. -/
import Derived.Test.YtjknobmbibighaaGreatAiK11
import Derived.Test.YtjknobmbibighaaGreatAbL2
import Derived.WalkSmall
set_option linter.unusedSimpArgs false
set_option linter.unusedVariables false
namespace Go.Ab
open Go Go.Proofs Go.RowKit
open Nat (reduceAdd reduceSub)
set_option maxRecDepth 20000
set_option maxHeartbeats 4000000
def encPr (p : Int × Int) : List PV := [.lit (.int .i64 p.1), .lit (.int .i64 p.2)]
abbrev prs (l : List (Int × Int)) : PV := .slice 2 (l.map encPr)
theorem bsearch_fn (l : List Int) (x : Int) (hl : l.length ≤ 1000000) (h : Inc l) : Fn Tryz.prog 74 [.pv (ints l), litI x] (.tup [.any, litB (decide (x ∈ l))]) where
  enters := enters_of Tryz.func74 rfl (by decide)
  calls := by
    intro N w vals hN hs hargs
    have hs : vals.size = 2 := hs
    obtain ⟨v0, v1, rfl⟩ : ∃ v0 v1, vals = #[v0, v1] := by
      rcases vals with ⟨_ | ⟨v0, _ | ⟨v1, _ | _⟩⟩⟩ <;> simp at hs
      exact ⟨v0, v1, rfl⟩
    have h0 := hargs 0 v0 _ rfl rfl
    have h1 := (hargs 1 v1 _ rfl rfl).lit
    subst h1
    have hcn : ∀ k : List Int, (k.contains x) = decide (x ∈ k) := fun k => by simp
    have h0 := h0.pv_inv
    cases h0 with
    | @slice a len cap k els b off vs hln hcap hb ha hk hc hr =>
      rw [List.length_map] at hln
      subst hln
      by_cases hnil : l = []
      · subst hnil
        refine (Tryz.slices_BinarySearch_int_empty a cap x w).mono fun e w' ⟨he, hw⟩ => ⟨_, he, ?_, hw ▸ Below.refl _ _⟩
        exact .tup rfl fun j u c h1 h2 => by
          match j, h1, h2 with
          | 0, h1, h2 => cases h2; exact .any _
          | 1, h1, h2 => cases h1; cases h2; exact .pv (.lit _)
      · have hab := ha (by simpa using hnil)
        obtain ⟨rfl, _, _⟩ := hab
        have hcell : ∀ j, j < l.length → w.cell? ⟨b, off + j, none⟩ = some (.int .i64 (l.getD j 0)) := by
          intro j hj
          have hp : cellAt (l.map encI) j 0 = some (.lit (.int .i64 l[j])) := by simp [cellAt, encI, hj]
          have h2 := hr j 0 _ hp
          have h3 := (hc j 0 _ hp).1
          generalize vs j 0 = u at h2 h3
          cases h2
          rw [Nat.mul_one, Nat.add_zero] at h3
          rw [h3, getD_at hj]
        refine (Tryz.slices_BinarySearch_int b off l.length cap l x w (Nat.le_refl _) (by omega) hcell (by rw [List.take_length]; exact h.imp (fun h => by omega))).mono fun e w' ⟨he, q, hw⟩ => ⟨_, he, ?_, hw ▸ below_drewN (Below.refl _ _) q⟩
        exact .tup rfl fun j u c h1 h2 => by
          match j, h1, h2 with
          | 0, h1, h2 => cases h2; exact .any _
          | 1, h1, h2 =>
            cases h1; cases h2
            rw [List.take_length, hcn]
            exact .pv (.lit _)
def freeO (i : Nat) (l : List Int) : List (Int × Int) := l.map fun t => ((i : Int), t)
theorem undL_snoc {x : BndM} {k : Nat} (hk : k < x.2.2.length) : diffL (x.2.2.take (k + 1)) x.1.2 = diffL (x.2.2.take k) x.1.2 ++ if x.2.2[k] ∉ x.1.2 then [x.2.2[k]] else [] := diffL_snoc hk
theorem freeL_snoc : ∀ (bs : List BndM) (i k : Nat) (hk : k < bs.length), freeL i (bs.take (k + 1)) = freeL i (bs.take k) ++ freeO (i + k) (undL bs[k])
  | [], _, k, hk => by simp at hk
  | x :: bs, i, 0, _ => by
    show (undL x).map _ ++ [] = [] ++ _
    rw [List.append_nil]; rfl
  | x :: bs, i, k + 1, hk => by
    show (undL x).map _ ++ freeL (i + 1) (bs.take (k + 1)) = ((undL x).map _ ++ freeL (i + 1) (bs.take k)) ++ freeO (i + (k + 1)) (undL (bs[k]'(by simpa using hk)))
    rw [freeL_snoc bs (i + 1) k (by simpa using hk), List.append_assoc, show i + 1 + k = i + (k + 1) by omega]
theorem freeL_len : ∀ (bs : List BndM) (i k : Nat), (∀ x ∈ bs, x.2.2.length ≤ 100000) → (freeL i (bs.take k)).length ≤ k * 100000
  | [], i, k, _ => by simp [freeL]
  | x :: bs, i, 0, _ => by simp [freeL]
  | x :: bs, i, k + 1, h => by
    show ((undL x).map _ ++ freeL (i + 1) (bs.take k)).length ≤ _
    have h1 := freeL_len bs (i + 1) k fun x hx => h x (by simp [hx])
    have h2 := h x (by simp)
    have h3 : (undL x).length ≤ x.2.2.length := List.length_filter_le _ _
    simp only [List.length_append, List.length_map]
    omega
attribute [local irreducible] AW AOps thenD inBlockD AR iterEnds roundEndsN inlEnds noGotoD canon diffL interL subL relOk rks freeL
theorem free_fn (bs : List BndM) (hb : bs.length ≤ 1000) (hb2 : ∀ x ∈ bs, x.1.2.length ≤ 100000 ∧ x.2.2.length ≤ 100000 ∧ Inc x.1.2) : Fn Tryz.prog 19 [.pv (bnds bs)] (.pv (prs (freeL 0 bs))) := by
  refine Fn.enter (n := 25) Tryz.func19 rfl rfl rfl rfl rfl (by decide) fun g hro_ hwt_ => ?_; (try (conv => rhs; simp only [Nf.all, Nat.reduceBEq, reduceAdd, reduceSub]))
  (refine zq ?_; refine za ?_; refine zd ?_; refine zq ?_; (conv => rhs; simp only [Nf.all, Nat.reduceBEq, reduceAdd, reduceSub]); refine AOps.allocN' rfl rfl rfl rfl ?_; (conv => rhs; simp only [Nf.all, Nat.reduceBEq, reduceAdd, reduceSub]); refine zd ?_; refine zo ?_; refine zq ?_; refine zm ?_; refine zn ?_; refine zm ?_; refine zd ?_; refine AW.block ?_)
  ((conv => rhs; simp only [Nf.all, Nat.reduceBEq, reduceAdd, reduceSub]); apply AW.loopR [8, 7, 3, 2] [] (fun k : Nat => ([(9, litI k)] : List (Nat × AV))) (fun k : Nat => ([(0, some (.box [.own 1 57 2 ((freeL 0 (bs.take k)).map encPr)])), (1, some .row)] : List (Nat × Option Ob))) (fun k : Nat => k ≤ bs.length) (fun k : Nat => bs.length - k) (0); (conv => lhs; simp only [Nf.lpR, Nf.all, Nat.reduceBEq, reduceAdd, reduceSub]); (all_goals skip))
  · exact Nat.zero_le _
  · exact weak rfl (by (refine ⟨.intE (by first | with_reducible rfl | (first | rfl | simp [freeL])), ?_⟩; refine ⟨.intE (by first | with_reducible rfl | (first | rfl | simp [freeL])), ?_⟩; refine ⟨.pvE (by first | with_reducible rfl | (first | rfl | simp [freeL])), ?_⟩; (iterate 2 refine ⟨.eq rfl rfl, ?_⟩); exact trivial)) (by (refine ⟨.box _ rfl ?_, ?_⟩; refine ⟨.nilownE (by first | rfl | simp [freeL]) rfl rfl, ?_⟩; exact trivial; refine ⟨.newrow rfl, ?_⟩; exact trivial)) rfl
  rintro k hk
  have hfl := freeL_len bs 0 k fun x hx => (hb2 x hx).2.1
  by_cases hlt : k < bs.length
  · have hsn := freeL_snoc bs 0 k hlt
    rw [Nat.zero_add] at hsn
    obtain ⟨hx1, hx2, hx3⟩ := hb2 _ (List.getElem_mem hlt)
    have hbs := fun t => bsearch_fn bs[k].1.2 t (by omega) hx3
    have hdl0 := fun i => diffL_len bs[k].2.2 bs[k].1.2 i
    (refine zq ?_; refine zs ?_; refine zd ?_; refine zo ?_; refine zc ?_; refine AW.skip ?_; refine thenD_n ?_; refine zo ?_; refine AW.block ?_; refine zq ?_; (conv => rhs; simp only [Nf.all, Nat.reduceBEq, reduceAdd, reduceSub]); refine zm ?_; (focus ((with_reducible apply AOps.index_map); (iterate 7 exact rfl); rotate_left; omega)); refine AOps.load_rn rfl rfl rfl rfl ?_; (conv => rhs; simp only [Nf.all, Nat.reduceBEq, reduceAdd, reduceSub]); refine AOps.allocN' rfl rfl rfl rfl ?_; (conv => rhs; simp only [Nf.all, Nat.reduceBEq, reduceAdd, reduceSub]); refine AOps.allocN' rfl rfl rfl rfl ?_; (conv => rhs; simp only [Nf.all, Nat.reduceBEq, reduceAdd, reduceSub]); refine AOps.store_b1 rfl rfl rfl rfl rfl rfl rfl rfl rfl (by with_reducible assumption) ?_; (conv => rhs; simp only [Nf.all, Nat.reduceBEq, reduceAdd, reduceSub]); refine AOps.store_bn rfl rfl rfl rfl rfl rfl rfl rfl rfl (by with_reducible assumption) ?_; (conv => rhs; simp only [Nf.all, Nat.reduceBEq, reduceAdd, reduceSub]); refine zd ?_; refine zq ?_; refine AOps.load_ball rfl rfl rfl rfl rfl ?_; (conv => rhs; simp only [Nf.all, Nat.reduceBEq, reduceAdd, reduceSub]); (with_reducible apply AOps.inline (hf := Tryz.func49)); (with_reducible assumption); (iterate 10 exact rfl); intro g_ hro_ hwt_; (conv => rhs; simp only [Nf.all, Nat.reduceBEq, reduceAdd, reduceSub]); refine zq ?_; refine AOps.box rfl rfl rfl rfl ?_; (conv => rhs; simp only [Nf.all, Nat.reduceBEq, reduceAdd, reduceSub]); refine za ?_; refine zd ?_; refine zq ?_; (conv => rhs; simp only [Nf.all, Nat.reduceBEq, reduceAdd, reduceSub]); refine AOps.makeFunc_c rfl rfl rfl ?_; refine AOps.assign rfl rfl rfl ?_; (conv => rhs; simp only [Nf.all, Nat.reduceBEq, reduceAdd, reduceSub]); refine zd ?_; refine AW.ret ?_; refine inlEnds_rclo rfl rfl ?_; (conv => rhs; simp only [Nf.all, Nat.reduceBEq, reduceAdd, reduceSub]); refine zd ?_; refine AW.block ?_)
    refine AW.rangeFuncUH (ps := [16]) (by assumption) (by assumption) rfl rfl Tryz.func73 rfl rfl rfl rfl rfl rfl (by decide) ?_
    intro gB tm0 l0 ps0 asg0 body0 hcode0 hroB hwtB hheld0 hupB htm0
    have htm0' : tm0.size = 25 := htm0
    (refine zq ?_; (conv => rhs; simp only [Nf.all, Nat.reduceBEq, reduceAdd, reduceSub]); refine AOps.fieldAddrN 54 1 2 rfl rfl rfl rfl ?_; refine AOps.fieldAddrN 51 1 1 rfl rfl rfl rfl ?_; refine zb ?_; refine zn ?_; refine zm ?_; refine zd ?_; refine AW.block ?_)
    ((conv => rhs; simp only [Nf.all, Nat.reduceBEq, reduceAdd, reduceSub]); apply AW.loopR [10, 9, 0, 1, 1004, 1009, 1008, 1007, 1003, 1002] [5, 4, 3, 2] (fun i : Nat => ([(11, litI i)] : List (Nat × AV))) (fun i : Nat => ([(0, some (.box [.own 1 57 2 ((freeL 0 (bs.take k) ++ freeO k (diffL (bs[k].2.2.take i) bs[k].1.2)).map encPr)])), (1, some .row)] : List (Nat × Option Ob))) (fun i : Nat => i ≤ bs[k].2.2.length) (fun i : Nat => bs[k].2.2.length - i) (0); (conv => lhs; simp only [Nf.lpR, Nf.all, Nat.reduceBEq, reduceAdd, reduceSub]); (all_goals skip))
    · exact Nat.zero_le _
    · exact weak rfl (by (refine ⟨.intE (by first | with_reducible rfl | (first | rfl | simp [freeO, diffL])), ?_⟩; refine ⟨.intE (by first | with_reducible rfl | (first | rfl | simp [freeO, diffL])), ?_⟩; refine ⟨.pvE (by first | with_reducible rfl | (first | rfl | simp [freeO, diffL])), ?_⟩; (iterate 3 refine ⟨.eq rfl rfl, ?_⟩); (iterate 2 refine ⟨.intE (by first | with_reducible rfl | (first | rfl | simp [freeO, diffL])), ?_⟩); refine ⟨.pvE (by first | with_reducible rfl | (first | rfl | simp [freeO, diffL])), ?_⟩; (iterate 2 refine ⟨.eq rfl rfl, ?_⟩); exact trivial)) (by (refine ⟨.box _ rfl ?_, ?_⟩; refine ⟨.ownE (by first | with_reducible rfl | (first | rfl | simp [freeO, diffL])) rfl, ?_⟩; exact trivial; refine ⟨.row rfl, ?_⟩; refine ⟨.loop rfl, ?_⟩; refine ⟨.box _ rfl ?_, ?_⟩; refine ⟨.intE (by first | with_reducible rfl | (first | rfl | simp [freeO, diffL])), ?_⟩; refine ⟨.pvE (by first | with_reducible rfl | (first | rfl | simp [freeO, diffL])), ?_⟩; refine ⟨.intE (by first | with_reducible rfl | (first | rfl | simp [freeO, diffL])), ?_⟩; refine ⟨.pvE (by first | with_reducible rfl | (first | rfl | simp [freeO, diffL])), ?_⟩; exact trivial; refine ⟨.box _ rfl ?_, ?_⟩; refine ⟨.intE (by first | with_reducible rfl | (first | rfl | simp [freeO, diffL])), ?_⟩; refine ⟨.pvE (by first | with_reducible rfl | (first | rfl | simp [freeO, diffL])), ?_⟩; refine ⟨.intE (by first | with_reducible rfl | (first | rfl | simp [freeO, diffL])), ?_⟩; refine ⟨.pvE (by first | with_reducible rfl | (first | rfl | simp [freeO, diffL])), ?_⟩; exact trivial; refine ⟨.box _ rfl ?_, ?_⟩; refine ⟨.intE (by first | with_reducible rfl | (first | rfl | simp [freeO, diffL])), ?_⟩; (iterate 2 exact trivial))) rfl
    rintro i hi
    have hdl := hdl0 i
    have hfo : (freeO k (diffL (bs[k].2.2.take i) bs[k].1.2)).length ≤ i := by unfold freeO; rw [List.length_map]; exact hdl
    by_cases hlt2 : i < bs[k].2.2.length
    · have hs2 := undL_snoc (x := bs[k]) hlt2
      have hbi := hbs bs[k].2.2[i]
      by_cases hm : bs[k].2.2[i] ∈ bs[k].1.2
      · rw [decide_eq_true hm] at hbi
        rw [if_neg (fun h => h hm), List.append_nil] at hs2
        (refine zq ?_; refine zs ?_; refine zd ?_; refine zo ?_; refine zc ?_; refine AW.skip ?_; refine thenD_n ?_; refine zo ?_; refine AW.block ?_; refine zq ?_; (conv => rhs; simp only [Nf.all, Nat.reduceBEq, reduceAdd, reduceSub]); (focus ((with_reducible apply AOps.index_map); (iterate 7 exact rfl); rotate_left; omega)); refine zr ?_; refine za ?_; refine zd ?_; refine zq ?_; (conv => rhs; simp only [Nf.all, Nat.reduceBEq, reduceAdd, reduceSub]); refine AOps.fieldAddrN 54 0 0 rfl rfl rfl rfl ?_; refine AOps.fieldAddrN 51 1 1 rfl rfl rfl rfl ?_; refine zb ?_; refine zm ?_; (with_reducible apply AOps.callp (hbi)); (repeat (first | exact .nil | (refine .cons rfl ?_ ?_; (first | exact .pv _ | exact .own _ _ _ _ rfl | exact .nil _ | exact .any _ | exact .rptr _ | (refine .aggL ?_; repeat (first | exact .nil | (refine .cons ?_ ?_; (first | exact .pv _ | exact .own _ _ _ _ rfl | exact .nil _)))))))); exact rfl; refine AOps.move_tup rfl rfl rfl ?_; (iterate 2 refine AOps.extract rfl rfl rfl rfl ?_); refine AOps.assign rfl rfl rfl ?_; (conv => rhs; simp only [Nf.all, Nat.reduceBEq, reduceAdd, reduceSub]); refine za ?_; refine zd ?_; refine zq ?_; (conv => rhs; simp only [Nf.all, Nat.reduceBEq, reduceAdd, reduceSub]); refine zm ?_; refine AOps.not rfl rfl rfl ?_; refine zm ?_; (iterate 4 refine AOps.guard_lf rfl rfl rfl rfl rfl rfl rfl ?_); refine AOps.pick_lf rfl rfl rfl rfl rfl rfl ?_; refine zd ?_; refine AW.cond_lf rfl rfl ?_; refine AW.skip ?_; refine inBlockD_n ?_; refine thenD_n ?_; refine AW.region ?_; (conv => rhs; simp only [Nf.all, Nat.reduceBEq, reduceAdd, reduceSub]); refine AOps.add rfl rfl rfl rfl rfl (by omega) ?_; refine zm ?_; refine zd ?_)
        exact ⟨i + 1, by omega, by omega, weak rfl (by (refine ⟨.intE (by first | with_reducible rfl | (first | rfl | (rw [hs2]))), ?_⟩; refine ⟨.intE (by first | with_reducible rfl | (first | rfl | (rw [hs2]))), ?_⟩; refine ⟨.pvE (by first | with_reducible rfl | (first | rfl | (rw [hs2]))), ?_⟩; (iterate 3 refine ⟨.eq rfl rfl, ?_⟩); refine ⟨.intE (by first | with_reducible rfl | (first | rfl | (rw [hs2]))), ?_⟩; refine ⟨.intE (by first | with_reducible rfl | (first | rfl | (rw [hs2]))), ?_⟩; refine ⟨.pvE (by first | with_reducible rfl | (first | rfl | (rw [hs2]))), ?_⟩; (iterate 2 refine ⟨.eq rfl rfl, ?_⟩); exact trivial)) (by (refine ⟨.box _ rfl ?_, ?_⟩; refine ⟨.ownE (by first | with_reducible rfl | (first | rfl | (rw [hs2]))) rfl, ?_⟩; exact trivial; refine ⟨.row rfl, ?_⟩; refine ⟨.loop rfl, ?_⟩; refine ⟨.box _ rfl ?_, ?_⟩; refine ⟨.intE (by first | with_reducible rfl | (first | rfl | (rw [hs2]))), ?_⟩; refine ⟨.pvE (by first | with_reducible rfl | (first | rfl | (rw [hs2]))), ?_⟩; refine ⟨.intE (by first | with_reducible rfl | (first | rfl | (rw [hs2]))), ?_⟩; refine ⟨.pvE (by first | with_reducible rfl | (first | rfl | (rw [hs2]))), ?_⟩; exact trivial; refine ⟨.box _ rfl ?_, ?_⟩; refine ⟨.intE (by first | with_reducible rfl | (first | rfl | (rw [hs2]))), ?_⟩; refine ⟨.pvE (by first | with_reducible rfl | (first | rfl | (rw [hs2]))), ?_⟩; refine ⟨.intE (by first | with_reducible rfl | (first | rfl | (rw [hs2]))), ?_⟩; refine ⟨.pvE (by first | with_reducible rfl | (first | rfl | (rw [hs2]))), ?_⟩; exact trivial; refine ⟨.box _ rfl ?_, ?_⟩; refine ⟨.intE (by first | with_reducible rfl | (first | rfl | (rw [hs2]))), ?_⟩; (iterate 2 exact trivial))) rfl⟩
      · rw [decide_eq_false hm] at hbi
        rw [if_pos hm] at hs2
        (refine zq ?_; refine zs ?_; refine zd ?_; refine zo ?_; refine zc ?_; refine AW.skip ?_; refine thenD_n ?_; refine zo ?_; refine AW.block ?_; refine zq ?_; (conv => rhs; simp only [Nf.all, Nat.reduceBEq, reduceAdd, reduceSub]); (focus ((with_reducible apply AOps.index_map); (iterate 7 exact rfl); rotate_left; omega)); refine zr ?_; refine za ?_; refine zd ?_; refine zq ?_; (conv => rhs; simp only [Nf.all, Nat.reduceBEq, reduceAdd, reduceSub]); refine AOps.fieldAddrN 54 0 0 rfl rfl rfl rfl ?_; refine AOps.fieldAddrN 51 1 1 rfl rfl rfl rfl ?_; refine zb ?_; refine zm ?_; (with_reducible apply AOps.callp (hbi)); (repeat (first | exact .nil | (refine .cons rfl ?_ ?_; (first | exact .pv _ | exact .own _ _ _ _ rfl | exact .nil _ | exact .any _ | exact .rptr _ | (refine .aggL ?_; repeat (first | exact .nil | (refine .cons ?_ ?_; (first | exact .pv _ | exact .own _ _ _ _ rfl | exact .nil _)))))))); exact rfl; refine AOps.move_tup rfl rfl rfl ?_; (iterate 2 refine AOps.extract rfl rfl rfl rfl ?_); refine AOps.assign rfl rfl rfl ?_; (conv => rhs; simp only [Nf.all, Nat.reduceBEq, reduceAdd, reduceSub]); refine za ?_; refine zd ?_; refine zq ?_; (conv => rhs; simp only [Nf.all, Nat.reduceBEq, reduceAdd, reduceSub]); refine zm ?_; refine AOps.not rfl rfl rfl ?_; refine zm ?_; refine zl ?_; refine AOps.move rfl rfl rfl ?_; (conv => rhs; simp only [Nf.all, Nat.reduceBEq, reduceAdd, reduceSub]); refine zl ?_; refine zm ?_; refine zl ?_; (with_reducible apply AOps.yieldN0 hcode0 hwtB hheld0 htm0'); (iterate 8 exact rfl); intro gR hroR_ hwtR hupR; (try (conv => rhs; simp only [Nf.all, Nat.reduceBEq, reduceAdd, reduceSub])); refine AW.region ?_; refine za ?_; refine zd ?_; refine And.intro (show isLp _ _ _ _ from ⟨_, _, _, _, rfl⟩) ?_; (try (conv => rhs; simp only [Nf.all, Nat.reduceBEq, reduceAdd, reduceSub])); refine AW.block ?_; refine AW.region ?_; (iterate 2 refine zb ?_); refine zm ?_; refine AOps.ba2 rfl rfl rfl rfl rfl rfl rfl rfl rfl rfl rfl rfl ?_; refine AOps.bs1a2 rfl rfl rfl rfl rfl rfl rfl rfl rfl ?_; (conv => rhs; simp only [Nf.all, Nat.reduceBEq, reduceAdd, reduceSub]); (with_reducible apply AOps.appendS); exact rfl; (first | exact .pv rfl | exact .own rfl | exact .nil rfl); (iterate 9 exact rfl); (first | omega | (simp only [List.length_map, List.length_append, List.length_cons, List.length_nil, List.length_drop, List.length_take, chunk_len]; omega)); (conv => rhs; simp only [Nf.all, Nat.reduceBEq, reduceAdd, reduceSub]); refine AOps.store_b1 rfl rfl rfl rfl rfl rfl rfl rfl rfl (by with_reducible assumption) ?_; (conv => rhs; simp only [Nf.all, Nat.reduceBEq, reduceAdd, reduceSub]); refine AOps.nil ?_; refine inBlockD_n ?_; (with_reducible apply roundEndsN_n); exact ⟨_, _, _, _, rfl⟩; (conv => rhs; simp only [Nf.all, Nat.reduceBEq, reduceAdd, reduceSub]); refine zl ?_; refine AOps.not rfl rfl rfl ?_; refine AOps.pick_lt rfl rfl rfl rfl rfl rfl ?_; refine zd ?_; refine AW.cond_lf rfl rfl ?_; refine AW.skip ?_; refine inBlockD_n ?_; refine thenD_n ?_; refine AW.region ?_; (conv => rhs; simp only [Nf.all, Nat.reduceBEq, reduceAdd, reduceSub]); refine AOps.add rfl rfl rfl rfl rfl (by omega) ?_; refine zm ?_; refine zd ?_)
        exact ⟨i + 1, by omega, by omega, weak rfl (by (refine ⟨.intE (by first | with_reducible rfl | (first | rfl | (rw [hs2]; unfold freeO; simp [encPr]))), ?_⟩; refine ⟨.intE (by first | with_reducible rfl | (first | rfl | (rw [hs2]; unfold freeO; simp [encPr]))), ?_⟩; refine ⟨.pvE (by first | with_reducible rfl | (first | rfl | (rw [hs2]; unfold freeO; simp [encPr]))), ?_⟩; (iterate 3 refine ⟨.eq rfl rfl, ?_⟩); refine ⟨.intE (by first | with_reducible rfl | (first | rfl | (rw [hs2]; unfold freeO; simp [encPr]))), ?_⟩; refine ⟨.intE (by first | with_reducible rfl | (first | rfl | (rw [hs2]; unfold freeO; simp [encPr]))), ?_⟩; refine ⟨.pvE (by first | with_reducible rfl | (first | rfl | (rw [hs2]; unfold freeO; simp [encPr]))), ?_⟩; (iterate 2 refine ⟨.eq rfl rfl, ?_⟩); exact trivial)) (by (refine ⟨.box _ rfl ?_, ?_⟩; refine ⟨.ownE (by first | with_reducible rfl | (first | rfl | (rw [hs2]; unfold freeO; simp [encPr]))) rfl, ?_⟩; exact trivial; refine ⟨.row rfl, ?_⟩; refine ⟨.loop rfl, ?_⟩; refine ⟨.box _ rfl ?_, ?_⟩; refine ⟨.intE (by first | with_reducible rfl | (first | rfl | (rw [hs2]; unfold freeO; simp [encPr]))), ?_⟩; refine ⟨.pvE (by first | with_reducible rfl | (first | rfl | (rw [hs2]; unfold freeO; simp [encPr]))), ?_⟩; refine ⟨.intE (by first | with_reducible rfl | (first | rfl | (rw [hs2]; unfold freeO; simp [encPr]))), ?_⟩; refine ⟨.pvE (by first | with_reducible rfl | (first | rfl | (rw [hs2]; unfold freeO; simp [encPr]))), ?_⟩; exact trivial; refine ⟨.box _ rfl ?_, ?_⟩; refine ⟨.intE (by first | with_reducible rfl | (first | rfl | (rw [hs2]; unfold freeO; simp [encPr]))), ?_⟩; refine ⟨.pvE (by first | with_reducible rfl | (first | rfl | (rw [hs2]; unfold freeO; simp [encPr]))), ?_⟩; refine ⟨.intE (by first | with_reducible rfl | (first | rfl | (rw [hs2]; unfold freeO; simp [encPr]))), ?_⟩; refine ⟨.pvE (by first | with_reducible rfl | (first | rfl | (rw [hs2]; unfold freeO; simp [encPr]))), ?_⟩; exact trivial; refine ⟨.box _ rfl ?_, ?_⟩; refine ⟨.intE (by first | with_reducible rfl | (first | rfl | (rw [hs2]; unfold freeO; simp [encPr]))), ?_⟩; (iterate 2 exact trivial))) rfl⟩
    · rw [take_all (l := bs[k].2.2) (by omega)]
      (refine zq ?_; refine zs ?_; refine zd ?_; refine zo ?_; refine zk ?_; refine AW.exit ?_; (iterate 2 refine thenD_exit ?_); refine inBlockD_exit ?_; refine iterEndsN_ready (.inl rfl) rfl ?_; (try (conv => rhs; simp only [Nf.all, Nat.reduceBEq, reduceAdd, reduceSub])); (iterate 2 refine inBlockD_n ?_); refine thenD_n ?_; refine AW.region ?_; refine AOps.add rfl rfl rfl rfl rfl (by omega) ?_; refine zm ?_; refine zd ?_)
      exact ⟨k + 1, by omega, by omega, weak rfl (by (refine ⟨.intE (by first | with_reducible rfl | (first | rfl | (rw [hsn]; rfl))), ?_⟩; refine ⟨.intE (by first | with_reducible rfl | (first | rfl | (rw [hsn]; rfl))), ?_⟩; refine ⟨.pvE (by first | with_reducible rfl | (first | rfl | (rw [hsn]; rfl))), ?_⟩; (iterate 2 refine ⟨.eq rfl rfl, ?_⟩); exact trivial)) (by (refine ⟨.box _ rfl ?_, ?_⟩; refine ⟨.ownE (by first | with_reducible rfl | (first | rfl | (rw [hsn]; rfl))) rfl, ?_⟩; exact trivial; refine ⟨.row rfl, ?_⟩; exact trivial)) rfl⟩
  · rw [take_all (l := bs) (by omega)]
    (refine zq ?_; refine zs ?_; refine zd ?_; refine zo ?_; refine zk ?_; refine AW.exit ?_; (iterate 2 refine thenD_exit ?_); refine inBlockD_exit ?_; refine thenD_n ?_; refine zq ?_; (conv => rhs; simp only [Nf.all, Nat.reduceBEq, reduceAdd, reduceSub]); refine zb ?_; refine AOps.assign_own rfl rfl rfl ?_; refine zd ?_; refine AW.ret ?_)
    (apply ends_ret; (exact Res.one (.tmp rfl rfl)); (exact Le.own _ _ _ _ rfl))
end Go.Ab
