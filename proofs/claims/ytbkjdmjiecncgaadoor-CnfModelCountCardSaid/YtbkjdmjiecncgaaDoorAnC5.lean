/- Chapter 19: the formula of a reference, walked. -/
import Derived.Test.YtbkjdmjiecncgaaDoorAnC4
import Derived.Test.YtbkjdmjiecncgaaDoorAbL2
import Derived.Test.YtbkjdmjiecncgaaDoorAnA2
import Derived.Test.YtbkjdmjiecncgaaDoorAnSH
set_option linter.unusedSimpArgs false
set_option linter.unusedVariables false
namespace Go.Ab
open Go Go.Proofs Go.RowKit
open Nat (reduceAdd reduceSub)
set_option maxRecDepth 20000
set_option maxHeartbeats 4000000
theorem count_lt : ∀ {l : List Int}, Inc l → ∀ {x : Int}, x ∈ l → l.countP (fun y => decide (y < x)) = idxI l x
  | [], _, x, h => by cases h
  | y :: l, hi, x, h => by
    have hi' := List.pairwise_cons.1 hi
    unfold idxI
    rw [List.countP_cons, List.findIdx_cons]
    by_cases e : y = x
    · subst e
      have h0 : l.countP (fun z => decide (z < y)) = 0 := by
        rw [List.countP_eq_zero]
        intro z hz
        have := hi'.1 z hz
        simp; omega
      rw [h0]; simp
    · have hx : x ∈ l := by
        rcases List.mem_cons.1 h with e' | h
        · exact absurd e'.symm e
        · exact h
      have h1 := hi'.1 x hx
      have h2 := count_lt hi'.2 hx
      unfold idxI at h2
      rw [h2, if_pos (by simpa using h1)]
      simp [e]
theorem below_drewN {B : Nat} {a w : World} (h : Below B a w) (n : Nat) : Below B a (w.drewN n) := h.trans ⟨rfl, rfl, rfl, Nat.le_refl _, fun _ _ => rfl⟩
theorem bsearch_fn (l : List Int) (x : Int) (hl : l.length ≤ 1000000) (h : Inc l) : Fn Tryd.prog 31 [.pv (ints l), litI x] (.tup [litI (l.countP (fun y => decide (y < x)) : Nat), litB (decide (x ∈ l))]) where
  enters := enters_of Tryd.func31 rfl (by decide)
  calls := by
    intro N w vals hN hs hargs
    have hs : vals.size = 2 := hs
    obtain ⟨v0, v1, rfl⟩ : ∃ v0 v1, vals = #[v0, v1] := by
      rcases vals with ⟨_ | ⟨v0, _ | ⟨v1, _ | _⟩⟩⟩ <;> simp at hs
      exact ⟨v0, v1, rfl⟩
    have h0 := hargs 0 v0 _ rfl rfl
    have h1 := (hargs 1 v1 _ rfl rfl).lit
    subst h1
    have hcn : ∀ k : List Int, (k.contains x) = decide (x ∈ k) := fun k => by simp
    have h0 := h0.pv_inv
    cases h0 with
    | @slice a len cap k els b off vs hln hcap hb ha hk hc hr =>
      rw [List.length_map] at hln
      subst hln
      by_cases hnil : l = []
      · subst hnil
        refine (Tryd.slices_BinarySearch_int_empty a cap x w).mono fun e w' ⟨he, hw⟩ => ⟨_, he, ?_, hw ▸ Below.refl _ _⟩
        exact .tup rfl fun j u c h1 h2 => by
          match j, h1, h2 with
          | 0, h1, h2 => cases h1; cases h2; exact .pv (.lit _)
          | 1, h1, h2 => cases h1; cases h2; exact .pv (.lit _)
      · have hab := ha (by simpa using hnil)
        obtain ⟨rfl, _, _⟩ := hab
        have hcell : ∀ j, j < l.length → w.cell? ⟨b, off + j, none⟩ = some (.int .i64 (l.getD j 0)) := by
          intro j hj
          have hp : cellAt (l.map encI) j 0 = some (.lit (.int .i64 l[j])) := by simp [cellAt, encI, hj]
          have h2 := hr j 0 _ hp
          have h3 := (hc j 0 _ hp).1
          generalize vs j 0 = u at h2 h3
          cases h2
          rw [Nat.mul_one, Nat.add_zero] at h3
          rw [h3, getD_at hj]
        refine (Tryd.slices_BinarySearch_int b off l.length cap l x w (Nat.le_refl _) (by omega) hcell (by rw [List.take_length]; exact h.imp (fun h => by omega))).mono fun e w' ⟨he, q, hw⟩ => ⟨_, he, ?_, hw ▸ below_drewN (Below.refl _ _) q⟩
        exact .tup rfl fun j u c h1 h2 => by
          match j, h1, h2 with
          | 0, h1, h2 =>
            cases h1; cases h2
            rw [List.take_length]
            exact .pv (.lit _)
          | 1, h1, h2 =>
            cases h1; cases h2
            rw [List.take_length, hcn]
            exact .pv (.lit _)
attribute [local irreducible] AW AOps thenD inBlockD AR iterEnds roundEndsN inlEnds noGotoD canon idxI
theorem litG_fn (gs : List GateM) (G : List Int) (n x : Int) (hG : Inc G) (hl : G.length ≤ 100000) (hn : 0 ≤ n ∧ n ≤ 1000000) (h0 : 0 ≤ x) (hx : x < 2 * (gs.length : Int)) (hb : gs.length ≤ 1000000) (ha : -1000000 ≤ (gAt gs (x / 2).toNat).a ∧ (gAt gs (x / 2).toNat).a ≤ 1000000) :
    Fn Tryd.prog 30 [litI x, .rptr [gatesV gs], .rptr [ints G], .rptr [.lit (.int .i64 n)]] (litI (litG gs n G x)) := by
  have hbs := bsearch_fn G (x / 2) (by omega) hG
  have hlt : (x / 2).toNat < gs.length := by omega
  have hge := gAt_eq hlt
  unfold litG varG
  rw [hge] at ha ⊢
  by_cases hm : x / 2 ∈ G
  · have hc := count_lt hG hm
    have hil := idxI_lt hm
    rw [hc, decide_eq_true hm] at hbs
    rw [if_pos hm]
    by_cases h2 : x % 2 = 1
    · rw [if_pos h2]
      refine Fn.enter (n := 34) Tryd.func30 rfl rfl rfl rfl rfl (by decide) fun g hro_ hwt_ => ?_; (try (conv => rhs; simp only [Nf.all, Nat.reduceBEq, reduceAdd, reduceSub]))
      (refine zq ?_; refine za ?_; refine zd ?_; refine zq ?_; (conv => rhs; simp only [Nf.all, Nat.reduceBEq, reduceAdd, reduceSub]); refine AOps.fieldAddr_rN 27 0 0 1 rfl rfl rfl rfl ?_; (conv => rhs; simp only [Nf.all, Nat.reduceBEq, reduceAdd, reduceSub]); refine zr ?_; refine zm ?_; refine AOps.quoE rfl rfl rfl rfl rfl (by omega) ?_; (focus ((with_reducible apply AOps.index_mapI); (iterate 7 exact rfl); omega; rotate_left; (first | omega | exact Nat.zero_lt_one | exact (by simp)))); refine AOps.fieldAddr_rN 60 1 1 1 rfl rfl rfl rfl ?_; (conv => rhs; simp only [Nf.all, Nat.reduceBEq, reduceAdd, reduceSub]); refine zr ?_; refine za ?_; refine zd ?_; refine zo ?_; refine zq ?_; (conv => rhs; simp only [Nf.all, Nat.reduceBEq, reduceAdd, reduceSub]); refine zr ?_; refine zm ?_; refine AOps.quoE rfl rfl rfl rfl rfl (by omega) ?_; (with_reducible apply AOps.call (hbs)); (repeat (first | exact .nil | (refine .cons rfl ?_ ?_; (first | exact .pv _ | exact .own _ _ _ _ rfl | exact .nil _ | exact .any _ | exact .rptr _ | (refine .aggL ?_; repeat (first | exact .nil | (refine .cons ?_ ?_; (first | exact .pv _ | exact .own _ _ _ _ rfl | exact .nil _)))))))); exact rfl; exact rfl; exact (fun h_ => by cases h_); refine AOps.move_tup rfl rfl rfl ?_; (iterate 2 refine AOps.extract rfl rfl rfl rfl ?_); (iterate 2 refine za ?_); refine zd ?_; refine zq ?_; (conv => rhs; simp only [Nf.all, Nat.reduceBEq, reduceAdd, reduceSub]); refine zm ?_; refine zd ?_; refine AW.cond_lt rfl rfl ?_; refine AW.region ?_; (conv => rhs; simp only [Nf.all, Nat.reduceBEq, reduceAdd, reduceSub]); refine zr ?_; refine AOps.add rfl rfl rfl rfl rfl (by omega) ?_; refine zm ?_; refine AOps.add rfl rfl rfl rfl rfl (by omega) ?_; refine za ?_; refine zd ?_; refine zo ?_; refine zq ?_; (conv => rhs; simp only [Nf.all, Nat.reduceBEq, reduceAdd, reduceSub]); refine zm ?_; refine AOps.remE rfl rfl rfl rfl rfl (by omega) ?_; refine AOps.eql rfl rfl rfl rfl rfl ?_; refine zd ?_; refine AW.condY rfl rfl (by with_reducible assumption) ?_; refine zq ?_; (conv => rhs; simp only [Nf.all, Nat.reduceBEq, reduceAdd, reduceSub]); refine zm ?_; refine AOps.neg rfl rfl rfl (by omega) ?_; refine za ?_; refine zd ?_; refine AW.ret ?_; refine thenD_ret ?_)
      (apply ends_ret; (exact Res.one (.tmp rfl rfl)); (refine Le.litI ?_; (first | rfl | omega)))
    · rw [if_neg h2]
      refine Fn.enter (n := 34) Tryd.func30 rfl rfl rfl rfl rfl (by decide) fun g hro_ hwt_ => ?_; (try (conv => rhs; simp only [Nf.all, Nat.reduceBEq, reduceAdd, reduceSub]))
      (refine zq ?_; refine za ?_; refine zd ?_; refine zq ?_; (conv => rhs; simp only [Nf.all, Nat.reduceBEq, reduceAdd, reduceSub]); refine AOps.fieldAddr_rN 27 0 0 1 rfl rfl rfl rfl ?_; (conv => rhs; simp only [Nf.all, Nat.reduceBEq, reduceAdd, reduceSub]); refine zr ?_; refine zm ?_; refine AOps.quoE rfl rfl rfl rfl rfl (by omega) ?_; (focus ((with_reducible apply AOps.index_mapI); (iterate 7 exact rfl); omega; rotate_left; (first | omega | exact Nat.zero_lt_one | exact (by simp)))); refine AOps.fieldAddr_rN 60 1 1 1 rfl rfl rfl rfl ?_; (conv => rhs; simp only [Nf.all, Nat.reduceBEq, reduceAdd, reduceSub]); refine zr ?_; refine za ?_; refine zd ?_; refine zo ?_; refine zq ?_; (conv => rhs; simp only [Nf.all, Nat.reduceBEq, reduceAdd, reduceSub]); refine zr ?_; refine zm ?_; refine AOps.quoE rfl rfl rfl rfl rfl (by omega) ?_; (with_reducible apply AOps.call (hbs)); (repeat (first | exact .nil | (refine .cons rfl ?_ ?_; (first | exact .pv _ | exact .own _ _ _ _ rfl | exact .nil _ | exact .any _ | exact .rptr _ | (refine .aggL ?_; repeat (first | exact .nil | (refine .cons ?_ ?_; (first | exact .pv _ | exact .own _ _ _ _ rfl | exact .nil _)))))))); exact rfl; exact rfl; exact (fun h_ => by cases h_); refine AOps.move_tup rfl rfl rfl ?_; (iterate 2 refine AOps.extract rfl rfl rfl rfl ?_); (iterate 2 refine za ?_); refine zd ?_; refine zq ?_; (conv => rhs; simp only [Nf.all, Nat.reduceBEq, reduceAdd, reduceSub]); refine zm ?_; refine zd ?_; refine AW.cond_lt rfl rfl ?_; refine AW.region ?_; (conv => rhs; simp only [Nf.all, Nat.reduceBEq, reduceAdd, reduceSub]); refine zr ?_; refine AOps.add rfl rfl rfl rfl rfl (by omega) ?_; refine zm ?_; refine AOps.add rfl rfl rfl rfl rfl (by omega) ?_; refine za ?_; refine zd ?_; refine zo ?_; refine zq ?_; (conv => rhs; simp only [Nf.all, Nat.reduceBEq, reduceAdd, reduceSub]); refine zm ?_; refine AOps.remE rfl rfl rfl rfl rfl (by omega) ?_; refine AOps.eql rfl rfl rfl rfl rfl ?_; refine zd ?_; refine AW.condN rfl rfl (by with_reducible assumption) ?_; refine AW.skip ?_; refine thenD_n ?_; refine zq ?_; (conv => rhs; simp only [Nf.all, Nat.reduceBEq, reduceAdd, reduceSub]); refine zm ?_; refine za ?_; refine zd ?_; refine AW.ret ?_)
      (apply ends_ret; (exact Res.one (.tmp rfl rfl)); (refine Le.litI ?_; (first | rfl | omega)))
  · rw [decide_eq_false hm] at hbs
    rw [if_neg hm]
    have hcl : G.countP (fun y => decide (y < x / 2)) ≤ G.length := List.countP_le_length
    generalize G.countP (fun y => decide (y < x / 2)) = cnt at hbs hcl
    by_cases h2 : x % 2 = 1
    · rw [if_pos h2]
      refine Fn.enter (n := 34) Tryd.func30 rfl rfl rfl rfl rfl (by decide) fun g hro_ hwt_ => ?_; (try (conv => rhs; simp only [Nf.all, Nat.reduceBEq, reduceAdd, reduceSub]))
      (refine zq ?_; refine za ?_; refine zd ?_; refine zq ?_; (conv => rhs; simp only [Nf.all, Nat.reduceBEq, reduceAdd, reduceSub]); refine AOps.fieldAddr_rN 27 0 0 1 rfl rfl rfl rfl ?_; (conv => rhs; simp only [Nf.all, Nat.reduceBEq, reduceAdd, reduceSub]); refine zr ?_; refine zm ?_; refine AOps.quoE rfl rfl rfl rfl rfl (by omega) ?_; (focus ((with_reducible apply AOps.index_mapI); (iterate 7 exact rfl); omega; rotate_left; (first | omega | exact Nat.zero_lt_one | exact (by simp)))); refine AOps.fieldAddr_rN 60 1 1 1 rfl rfl rfl rfl ?_; (conv => rhs; simp only [Nf.all, Nat.reduceBEq, reduceAdd, reduceSub]); refine zr ?_; refine za ?_; refine zd ?_; refine zo ?_; refine zq ?_; (conv => rhs; simp only [Nf.all, Nat.reduceBEq, reduceAdd, reduceSub]); refine zr ?_; refine zm ?_; refine AOps.quoE rfl rfl rfl rfl rfl (by omega) ?_; (with_reducible apply AOps.call (hbs)); (repeat (first | exact .nil | (refine .cons rfl ?_ ?_; (first | exact .pv _ | exact .own _ _ _ _ rfl | exact .nil _ | exact .any _ | exact .rptr _ | (refine .aggL ?_; repeat (first | exact .nil | (refine .cons ?_ ?_; (first | exact .pv _ | exact .own _ _ _ _ rfl | exact .nil _)))))))); exact rfl; exact rfl; exact (fun h_ => by cases h_); refine AOps.move_tup rfl rfl rfl ?_; (iterate 2 refine AOps.extract rfl rfl rfl rfl ?_); (iterate 2 refine za ?_); refine zd ?_; refine zq ?_; (conv => rhs; simp only [Nf.all, Nat.reduceBEq, reduceAdd, reduceSub]); refine zm ?_; refine zd ?_; refine AW.cond_lf rfl rfl ?_; refine AW.skip ?_; refine thenD_n ?_; refine zo ?_; refine zq ?_; (conv => rhs; simp only [Nf.all, Nat.reduceBEq, reduceAdd, reduceSub]); refine zm ?_; refine AOps.remE rfl rfl rfl rfl rfl (by omega) ?_; refine AOps.eql rfl rfl rfl rfl rfl ?_; refine zd ?_; refine AW.condY rfl rfl (by with_reducible assumption) ?_; refine zq ?_; (conv => rhs; simp only [Nf.all, Nat.reduceBEq, reduceAdd, reduceSub]); refine zm ?_; refine AOps.neg rfl rfl rfl (by omega) ?_; refine za ?_; refine zd ?_; refine AW.ret ?_; refine thenD_ret ?_)
      (apply ends_ret; (exact Res.one (.tmp rfl rfl)); (refine Le.litI ?_; (first | rfl | omega)))
    · rw [if_neg h2]
      refine Fn.enter (n := 34) Tryd.func30 rfl rfl rfl rfl rfl (by decide) fun g hro_ hwt_ => ?_; (try (conv => rhs; simp only [Nf.all, Nat.reduceBEq, reduceAdd, reduceSub]))
      (refine zq ?_; refine za ?_; refine zd ?_; refine zq ?_; (conv => rhs; simp only [Nf.all, Nat.reduceBEq, reduceAdd, reduceSub]); refine AOps.fieldAddr_rN 27 0 0 1 rfl rfl rfl rfl ?_; (conv => rhs; simp only [Nf.all, Nat.reduceBEq, reduceAdd, reduceSub]); refine zr ?_; refine zm ?_; refine AOps.quoE rfl rfl rfl rfl rfl (by omega) ?_; (focus ((with_reducible apply AOps.index_mapI); (iterate 7 exact rfl); omega; rotate_left; (first | omega | exact Nat.zero_lt_one | exact (by simp)))); refine AOps.fieldAddr_rN 60 1 1 1 rfl rfl rfl rfl ?_; (conv => rhs; simp only [Nf.all, Nat.reduceBEq, reduceAdd, reduceSub]); refine zr ?_; refine za ?_; refine zd ?_; refine zo ?_; refine zq ?_; (conv => rhs; simp only [Nf.all, Nat.reduceBEq, reduceAdd, reduceSub]); refine zr ?_; refine zm ?_; refine AOps.quoE rfl rfl rfl rfl rfl (by omega) ?_; (with_reducible apply AOps.call (hbs)); (repeat (first | exact .nil | (refine .cons rfl ?_ ?_; (first | exact .pv _ | exact .own _ _ _ _ rfl | exact .nil _ | exact .any _ | exact .rptr _ | (refine .aggL ?_; repeat (first | exact .nil | (refine .cons ?_ ?_; (first | exact .pv _ | exact .own _ _ _ _ rfl | exact .nil _)))))))); exact rfl; exact rfl; exact (fun h_ => by cases h_); refine AOps.move_tup rfl rfl rfl ?_; (iterate 2 refine AOps.extract rfl rfl rfl rfl ?_); (iterate 2 refine za ?_); refine zd ?_; refine zq ?_; (conv => rhs; simp only [Nf.all, Nat.reduceBEq, reduceAdd, reduceSub]); refine zm ?_; refine zd ?_; refine AW.cond_lf rfl rfl ?_; refine AW.skip ?_; refine thenD_n ?_; refine zo ?_; refine zq ?_; (conv => rhs; simp only [Nf.all, Nat.reduceBEq, reduceAdd, reduceSub]); refine zm ?_; refine AOps.remE rfl rfl rfl rfl rfl (by omega) ?_; refine AOps.eql rfl rfl rfl rfl rfl ?_; refine zd ?_; refine AW.condN rfl rfl (by with_reducible assumption) ?_; refine AW.skip ?_; refine thenD_n ?_; refine zq ?_; (conv => rhs; simp only [Nf.all, Nat.reduceBEq, reduceAdd, reduceSub]); refine zm ?_; refine za ?_; refine zd ?_; refine AW.ret ?_)
      (apply ends_ret; (exact Res.one (.tmp rfl rfl)); (refine Le.litI ?_; (first | rfl | omega)))
end Go.Ab
