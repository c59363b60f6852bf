/- Chapter 24: the predicate of a permutation, walked. -/
import Derived.Test.YtcklfjkaadfjjaaGreatApB4
import Derived.Test.YtcklfjkaadfjjaaGreatAbZ
import Derived.Test.YtcklfjkaadfjjaaGreatAbL3
import Derived.Test.YtcklfjkaadfjjaaGreatApK13
import Derived.Test.YtcklfjkaadfjjaaGreatApE5
import Derived.Test.YtcklfjkaadfjjaaGreatAbL2
import Derived.Test.YtcklfjkaadfjjaaGreatAbL4
set_option linter.unusedSimpArgs false
set_option linter.unusedVariables false
namespace Go.Ab
open Go Go.Proofs Go.RowKit
open Nat (reduceAdd reduceSub)
set_option maxRecDepth 20000
set_option maxHeartbeats 4000000
theorem predM_cons (gs : List GateM) (perm : List Int) {order : List Int} {k : Nat} (h : k < order.length) : predM gs perm (order.drop k) = predS perm order[k] (predM gs perm (order.drop (k + 1))) := by
  rw [List.drop_eq_getElem_cons h]; rfl
attribute [local irreducible] AW AOps thenD inBlockD AR iterEnds roundEndsN inlEnds noGotoD findG EndsX invTo invM predM andG inputG orG notR
theorem predicate_fn (gs : List GateM) (perm order : List Int) (hc : CirOk gs) (hp : PermOk perm) (hn : perm.length ≤ 1000) (ho : ∀ w ∈ order, 1 ≤ w ∧ w ≤ perm.length) (hol : order.length ≤ 1000) (hl : gs.length + 6 * order.length < 18000) :
    FnX Tryz.prog 29 1 (bO gs) [.ptr 0 0, .pv (ints perm), .pv (ints order)] (bO (predM gs perm order).1) (litI (predM gs perm order).2) := by
  have hiv := inverse_fn perm hp (by omega)
  have hil := inv_len perm
  simp only [bO]
  refine FnX.enter (n := 57) Tryz.func29 rfl rfl rfl rfl rfl (by decide) rfl rfl fun g hro_ hwt_ => ?_; refine Q140 ?_
  (refine Q64 ?_; refine Q51 ?_; refine zm ?_; refine zP (hiv) ?_; refine Q9 ?_; refine Q35 ?_; refine nz ?_; refine Q326 ?_; refine Q9 ?_; refine Q35 ?_; refine nz ?_; refine zd ?_; refine Q98 ?_; (with_reducible apply AOps.inline (hf := Tryz.func77)); (with_reducible assumption); (iterate 10 exact rfl); intro g_ hro_ hwt_; refine nz ?_; refine Q64 ?_; refine Q51 ?_; refine AOps.makeFunc_c rfl rfl rfl ?_; refine Q203 ?_)
  refine AW.rangeFuncUH (ps := [19, 20]) (by assumption) (by assumption) rfl rfl Tryz.func113 rfl rfl rfl rfl rfl rfl (by decide) ?_
  intro gB tm0 l0 ps0 asg0 body0 hcode0 hroB hwtB hheld0 hupB htm0
  have htm0' : tm0.size = 57 := htm0
  (refine Q4 ?_; refine zb ?_; refine zn ?_; refine AOps.sub rfl rfl rfl rfl rfl (by omega) ?_; refine Q75 ?_)
  (refine nz ?_; apply AW.loopR [0, 1, 1008, 1007, 1006, 1003, 2000] [5, 4, 2, 1] (fun k : Nat => ([(3, litI ((k : Int) - 1))] : List (Nat × AV))) (fun k : Nat => ([(0, some (.box [.pv (gatesV (predM gs perm (order.drop k)).1)])), (3, some (.box [litI (predM gs perm (order.drop k)).2]))] : List (Nat × Option Ob))) (fun k : Nat => k ≤ order.length) (fun k : Nat => k) (order.length); (conv => lhs; simp only [Nf.lpR, Nf.all, Nat.reduceBEq, reduceAdd, reduceSub]); (all_goals skip))
  · exact Nat.le_refl _
  · exact weak rfl (by (refine ⟨.intE (by first | with_reducible rfl | (first | rfl | (rw [List.drop_length]; rfl) | (rw [List.drop_length]; unfold predM; rfl))), ?_⟩; (iterate 4 refine ⟨.eq rfl rfl, ?_⟩); refine ⟨.intE (by first | with_reducible rfl | (first | rfl | (rw [List.drop_length]; rfl) | (rw [List.drop_length]; unfold predM; rfl))), ?_⟩; (iterate 2 refine ⟨.eq rfl rfl, ?_⟩); exact trivial)) (by (refine ⟨.box _ rfl ?_, ?_⟩; refine ⟨.pvE (by first | with_reducible rfl | (first | rfl | (rw [List.drop_length]; rfl) | (rw [List.drop_length]; unfold predM; rfl))), ?_⟩; exact trivial; refine ⟨.box _ rfl ?_, ?_⟩; refine ⟨.intE (by first | with_reducible rfl | (first | rfl | (rw [List.drop_length]; rfl) | (rw [List.drop_length]; unfold predM; rfl))), ?_⟩; exact trivial; refine ⟨.loop rfl, ?_⟩; refine ⟨.box _ rfl ?_, ?_⟩; refine ⟨.pvE (by first | with_reducible rfl | (first | rfl | (rw [List.drop_length]; rfl) | (rw [List.drop_length]; unfold predM; rfl))), ?_⟩; exact trivial; refine ⟨.box _ rfl ?_, ?_⟩; refine ⟨.pvE (by first | with_reducible rfl | (first | rfl | (rw [List.drop_length]; rfl) | (rw [List.drop_length]; unfold predM; rfl))), ?_⟩; exact trivial; refine ⟨.box _ rfl ?_, ?_⟩; refine ⟨.eq rfl rfl, ?_⟩; (iterate 2 exact trivial))) rfl
  rintro k hk
  cases k with
  | zero =>
    rw [show (((0 : Nat) : Int) - 1) = -1 from rfl, List.drop_zero]
    (refine Q98 ?_; refine AOps.geq rfl rfl rfl rfl rfl ?_; refine Q321 ?_; refine Q288 ?_; refine zb ?_; refine Q42 ?_)
    (apply endsX_ret; ((exact Res.one (.tmp rfl rfl))); ((exact Q193)); ((exact Q174)); exact rfl)
  | succ j =>
    rw [show (((j + 1 : Nat) : Int) - 1) = (j : Int) by omega]
    have hlt : j < order.length := by omega
    have hw := ho _ (List.getElem_mem hlt)
    have hcons := predM_cons gs perm hlt
    have hdl : (order.drop (j + 1)).length ≤ order.length - 1 := by rw [List.length_drop]; omega
    have hpk := pred_ok hc hp hn (order.drop (j + 1)) (fun w hw => ho w (List.mem_of_mem_drop hw)) (by omega)
    generalize order.drop (j + 1) = od at hdl hcons hpk ⊢
    generalize predM gs perm od = p at hcons hpk ⊢
    obtain ⟨g0, r0⟩ := p
    obtain ⟨hc0, hr0, hle0, hlen0, _, _, _⟩ := hpk
    simp only at hc0 hr0 hle0 hlen0 ⊢
    have hb := hp.back hw
    have hbl : (order[j] - 1).toNat < (invM perm).length := by omega
    have hbi := inv_at hw hbl
    unfold predS at hcons
    by_cases he : backM perm order[j] = order[j]
    · rw [if_pos he] at hcons
      rw [he] at hbi
      (refine Q142 ?_; refine AOps.move rfl rfl rfl ?_; refine nz ?_; refine zm ?_; refine zb ?_; refine zm ?_; (focus ((with_reducible apply AOps.index_map); (iterate 7 exact rfl); rotate_left; omega)); refine zr ?_; (with_reducible apply AOps.yieldN0 hcode0 hwtB hheld0 htm0'); (iterate 8 exact rfl); intro gR hroR_ hwtR hupR; (try refine nz ?_); refine AW.region ?_; refine Q5 ?_; refine And.intro (show isLp _ _ _ _ from ⟨_, _, _, _, rfl⟩) ?_; (try refine nz ?_); refine AW.block ?_; refine Q46 ?_; refine zb ?_; refine Q190 ?_; (focus ((with_reducible apply AOps.index_mapI); (iterate 7 exact rfl); omega; rotate_left; (first | omega | exact Nat.zero_lt_one | exact (by simp)))); refine zr ?_; refine Q84 ?_; refine zd ?_; refine zc ?_; refine AW.exit ?_; refine thenD_exit ?_; refine inBlockD_exit ?_; (with_reducible apply roundEndsN_n); exact ⟨_, _, _, _, rfl⟩; refine nz ?_; refine Q267 ?_; refine Q11 ?_; refine nz ?_; refine Q190 ?_; refine Q5 ?_)
      exact Q59
    · rw [if_neg he] at hcons
      rw [← hbi] at hcons he hb
      simp only at hcons
      generalize hvv : (invM perm)[(order[j] - 1).toNat] = bw at hcons he hb
      have g1 := input_ok hc0 (v := order[j]) (by omega) (by omega)
      have x1 := bInput_fn g0 order[j] (by omega) hc0.pos
      generalize inputG g0 order[j] = i1 at g1 x1 hcons
      obtain ⟨gs1, r1⟩ := i1
      obtain ⟨c1, q1, l1, m1⟩ := g1
      simp only at c1 q1 l1 m1 x1 hcons
      have g2 := input_ok c1 (v := bw) (by omega) (by omega)
      have x2 := bInput_fn gs1 bw (by omega) c1.pos
      generalize inputG gs1 bw = i2 at g2 x2 hcons
      obtain ⟨gs2, r2⟩ := i2
      obtain ⟨c2, q2, l2, m2⟩ := g2
      simp only at c2 q2 l2 m2 x2 hcons
      have t1 := q1.mono l2
      have b1 := q1.2
      have b1' := q1.1
      have b2 := q2.2
      have b2' := q2.1
      have n2 := pNot_fn r2 (by omega)
      have o2 := notR_ok q2
      generalize notR r2 = nr2 at n2 o2 hcons
      have o2' := o2.1
      have o2'' := o2.2
      have g3 := and_ok c2 t1 o2 (by omega)
      have x3 := bAnd_fn gs2 r1 nr2 (by omega) c2.pos (by omega) (by omega)
      generalize andG gs2 r1 nr2 = i3 at g3 x3 hcons
      obtain ⟨gs3, r3⟩ := i3
      obtain ⟨c3, q3, l3, m3⟩ := g3
      simp only at c3 q3 l3 m3 x3 hcons
      have b3 := q3.2
      have b3' := q3.1
      have n1 := pNot_fn r1 (by omega)
      have o1 := notR_ok (t1.mono l3)
      generalize notR r1 = nr1 at n1 o1 hcons
      have o1' := o1.1
      have o1'' := o1.2
      have g4 := and_ok c3 o1 (q2.mono l3) (by omega)
      have x4 := bAnd_fn gs3 nr1 r2 (by omega) c3.pos (by omega) (by omega)
      generalize andG gs3 nr1 r2 = i4 at g4 x4 hcons
      obtain ⟨gs4, r4⟩ := i4
      obtain ⟨c4, q4, l4, m4⟩ := g4
      simp only at c4 q4 l4 m4 x4 hcons
      have b4 := q4.2
      have b4' := q4.1
      have b0 := hr0.2
      have b0' := hr0.1
      have n3 := pNot_fn r3 (by omega)
      have o3 := notR_ok (q3.mono l4)
      generalize notR r3 = nr3 at n3 o3 hcons
      have o3' := o3.1
      have o3'' := o3.2
      have g5 := or_ok c4 q4 ((((hr0.mono l1).mono l2).mono l3).mono l4) (by omega)
      have x5 := bOr_fn gs4 r4 r0 (by omega) c4.pos (by omega) (by omega)
      generalize orG gs4 r4 r0 = i5 at g5 x5 hcons
      obtain ⟨gs5, r5⟩ := i5
      obtain ⟨c5, q5, l5, m5⟩ := g5
      simp only at c5 q5 l5 m5 x5 hcons
      have b5 := q5.2
      have b5' := q5.1
      have x6 := bAnd_fn gs5 nr3 r5 (by omega) c5.pos (by omega) (by omega)
      generalize andG gs5 nr3 r5 = i6 at x6 hcons
      obtain ⟨gs6, r6⟩ := i6
      simp only at x6 hcons
      simp only [bO] at x1 x2 x3 x4 x5 x6
      have he' : ¬ (invM perm)[(order[j] - 1).toNat] = order[j] := by rw [hvv]; exact he
      rw [← hvv] at x2
      (refine Q142 ?_; refine AOps.move rfl rfl rfl ?_; refine nz ?_; refine zm ?_; refine zb ?_; refine zm ?_; (focus ((with_reducible apply AOps.index_map); (iterate 7 exact rfl); rotate_left; omega)); refine zr ?_; (with_reducible apply AOps.yieldN0 hcode0 hwtB hheld0 htm0'); (iterate 8 exact rfl); intro gR hroR_ hwtR hupR; (try refine nz ?_); refine AW.region ?_; refine Q5 ?_; refine And.intro (show isLp _ _ _ _ from ⟨_, _, _, _, rfl⟩) ?_; (try refine nz ?_); refine AW.block ?_; refine Q46 ?_; refine zb ?_; refine Q190 ?_; (focus ((with_reducible apply AOps.index_mapI); (iterate 7 exact rfl); omega; rotate_left; (first | omega | exact Nat.zero_lt_one | exact (by simp)))); refine zr ?_; refine Q84 ?_; refine Q184 ?_; refine zb ?_; refine zm ?_; refine zX (x1) ?_; refine nx ?_; refine nz ?_; refine Q5 ?_; refine zo ?_; refine Q165 ?_; show AOps .held _ _ _ [_, _, _, _, _, _] _ _; (iterate 2 refine zb ?_); refine Q190 ?_; (focus ((with_reducible apply AOps.index_mapI); (iterate 7 exact rfl); omega; rotate_left; (first | omega | exact Nat.zero_lt_one | exact (by simp)))); refine zr ?_; refine Q7 ?_; intro k_ hk_; refine nz ?_; refine Q124 ?_; intro g_ hgro_ hwt2_; refine zX (x2) ?_; refine nx ?_; refine nz ?_; refine Q58 ?_; intro g_ hgro_ hwt2_; refine Q133 ?_; refine zo ?_; refine AW.regionM [0, 1, 2] [4] rfl (by assumption) (by kernel_rfl) (by kernel_rfl) rfl ?_; show AOps .held _ _ _ [_, _, _] _ _; refine zb ?_; (iterate 2 refine zm ?_); refine Q7 ?_; intro k_ hk_; refine nz ?_; refine AR.step1M (i := 3) rfl (by kernel_rfl) rfl ?_; intro g_ hgro_ hw_; refine zA (n2) ?_; refine Q7 ?_; refine Q285 ?_; intro g_ hgro_ hwt2_; refine zX (x3) ?_; refine nx ?_; refine Q121 ?_; refine AR.step1LM (i := 5) rfl (by kernel_rfl) rfl (by kernel_rfl) ?_; intro g_ hgro_ hwt2_; refine Q133 ?_; refine zo ?_; refine AW.regionM [0, 1, 3] [4] rfl (by assumption) (by kernel_rfl) (by kernel_rfl) rfl ?_; show AOps .held _ _ _ [_, _, _] _ _; refine zb ?_; (iterate 2 refine zm ?_); refine Q7 ?_; intro k_ hk_; refine nz ?_; refine AR.step1M (i := 2) rfl (by kernel_rfl) rfl ?_; intro g_ hgro_ hw_; refine zA (n1) ?_; refine Q7 ?_; refine Q285 ?_; intro g_ hgro_ hwt2_; refine zX (x4) ?_; refine nx ?_; refine Q121 ?_; refine AR.step1LM (i := 5) rfl (by kernel_rfl) rfl (by kernel_rfl) ?_; intro g_ hgro_ hwt2_; refine Q133 ?_; refine AW.regionM [1, 3, 4, 5] [6] rfl (by assumption) (by kernel_rfl) (by kernel_rfl) rfl ?_; show AOps .held _ _ _ [_, _, _, _] _ _; refine zm ?_; refine zb ?_; refine zm ?_; refine zb ?_; refine Q7 ?_; intro k_ hk_; refine nz ?_; apply AR.cut [5, 4, 3, 1, 0, 2, 6]; intro hJ_0; apply AR.cut [5, 4, 3, 1, 0, 2]; intro hJ_1; (refine AR.step2M (i := 0) (j := 2) rfl (by kernel_rfl) rfl rfl ?_ ?_ <;> intro g_ hgro_ hw_); refine zb ?_; refine Q255 ?_; intro g_ hgro_ hw_; refine zA (n3) ?_; refine Q1 ?_; exact AR.perm (by kernel_rfl) hJ_1; refine zA (n3) ?_; refine Q7 ?_; (refine AR.step2L (i := 0) (j := 6) rfl (by kernel_rfl) rfl rfl (by kernel_rfl) ?_ ?_ <;> intro g_ hgro_ hwt2_); refine zb ?_; refine Q40 ?_; refine AR.meet hJ_1 (by kernel_rfl) (fun g_ => weak rfl ?_ ?_ rfl); (iterate 60 refine ⟨.eq rfl rfl, ?_⟩); exact trivial; refine Q16 ?_; refine ⟨.loop rfl, ?_⟩; exact Q97; refine zX (x5) ?_; refine nx ?_; refine Q121 ?_; refine AR.step1LM (i := 0) rfl (by kernel_rfl) rfl (by kernel_rfl) ?_; intro g_ hgro_ hwt2_; refine zb ?_; refine Q1 ?_; exact AR.perm (by kernel_rfl) hJ_0; refine Q124 ?_; intro g_ hgro_ hwt2_; refine zX (x5) ?_; refine nx ?_; refine nz ?_; refine Q40 ?_; refine AR.meet hJ_0 (by kernel_rfl) (fun g_ => weak rfl ?_ ?_ rfl); (iterate 61 refine ⟨.eq rfl rfl, ?_⟩); exact trivial; refine Q16 ?_; refine ⟨.loop rfl, ?_⟩; exact Q97; refine AR.step1LM (i := 7) rfl (by kernel_rfl) rfl (by kernel_rfl) ?_; intro g_ hgro_ hwt2_; refine zX (x6) ?_; refine nx ?_; refine Q121 ?_; refine Q123 ?_; intro g_ hgro_ hwt2_; refine Q197 ?_; (with_reducible apply roundEndsN_n); exact ⟨_, _, _, _, rfl⟩; refine nz ?_; refine Q267 ?_; refine Q11 ?_; refine nz ?_; refine Q190 ?_; refine Q5 ?_)
      exact Q59
end Go.Ab
/- Chapter 24: Predicate, walked. -/
namespace Go.Ab
open Go Go.Proofs Go.RowKit
open Nat (reduceAdd reduceSub)
set_option maxRecDepth 20000
set_option maxHeartbeats 4000000
attribute [local irreducible] AW AOps thenD inBlockD AR iterEnds roundEndsN inlEnds noGotoD findG EndsX invTo invM predM andG inputG orG notR
theorem pPredicate_fn (gs : List GateM) (perm order : List Int) (hc : CirOk gs) (hp : PermOk perm) (hn : perm.length ≤ 1000) (ho : ∀ w ∈ order, 1 ≤ w ∧ w ≤ perm.length) (hol : order.length ≤ 1000) (hl : gs.length + 6 * order.length < 18000) :
    Fn Tryz.prog 9 [crc gs, .pv (ints perm), .pv (ints order)] (.tup [crc (predM gs perm order).1, litI (predM gs perm order).2]) := by
  have hx := predicate_fn gs perm order hc hp hn ho hol hl
  generalize predM gs perm order = p at hx ⊢
  obtain ⟨g1, r1⟩ := p
  simp only [bO] at hx ⊢
  refine Fn.enter (n := 22) Tryz.func9 rfl rfl rfl rfl rfl (by decide) fun g hro_ hwt_ => ?_; (try refine nz ?_)
  (refine Q64 ?_; refine Q332 ?_; refine zd ?_; (with_reducible apply AW.swP 2 8 2 0); (with_reducible assumption); (iterate 3 exact rfl); refine Q261 ?_; refine zq ?_; refine AOps.move_ptr rfl rfl rfl ?_; (iterate 2 refine zm ?_); refine zX (hx) ?_; refine nx ?_; refine nz ?_; refine Q51 ?_; refine AOps.move_ptr rfl rfl rfl ?_; refine Q158 ?_; refine Q202 ?_; refine Q62 ?_; refine Q42 ?_)
  (apply ends_ret; (exact Res.two (.cell rfl rfl rfl rfl) (.tmp rfl rfl)); (refine Le.tupL ?_; refine LeL.cons ?_ ?_; refine Le.aggL ?_; refine LeL.cons ?_ ?_; (with_reducible exact Le.pv _); exact LeL.nil; refine LeL.cons ?_ ?_; refine Le.litI ?_; (rfl); exact LeL.nil))
end Go.Ab
/- Chapter 24: Breaking, walked. -/
namespace Go.Ab
open Go Go.Proofs Go.RowKit
open Nat (reduceAdd reduceSub)
set_option maxRecDepth 20000
set_option maxHeartbeats 4000000
attribute [local irreducible] AW AOps thenD inBlockD AR iterEnds roundEndsN inlEnds noGotoD sortL predM andG brkM litV
theorem clone_fnO (l : List Int) (hl : l.length ≤ 1000000) : FnO Tryz.prog 44 [.pv (ints l)] 3 1 (l.map nI) := by
  rw [show l.map nI = l.map encI from rfl]
  refine FnO.enter (n := 8) Tryz.func44 rfl rfl rfl rfl rfl (by decide) fun g hro_ hwt_ => ?_; (try refine nz ?_)
  by_cases h0 : l = []
  · subst h0
    have e0 : ([] : List Int).length = 0 := rfl
    (refine zq ?_; refine Q214 ?_; (focus ((with_reducible apply AOps.eqlNil); (iterate 6 exact rfl); all_goals intro hc_)); refine Q216 ?_; refine Q57 ?_; (all_goals skip); rotate_left; refine Q45 ?_; refine Q157 ?_; refine Q215 ?_; refine zm ?_; (with_reducible apply AOps.appendS); exact rfl; (first | exact .pv rfl | exact .own rfl | exact .nil rfl); (iterate 9 exact rfl); (first | omega | (simp only [List.length_map, List.length_append, List.length_cons, List.length_nil, List.length_drop, List.length_take, List.length_set, chunk_len]; omega)); refine nz ?_; refine Q294 ?_; (all_goals skip); rotate_left)
    all_goals ((first | (refine endsO_ret (Res.one (.tmp rfl rfl)) ?_) | (refine endsO_ret (Res.one (.cell1 rfl rfl rfl rfl)) ?_) | (refine endsO_nil (Res.one (.tmp rfl rfl)) ?_)); (first | rfl | simp))
  · have e0 : 0 < l.length := List.length_pos_iff.2 h0
    have e1 : ¬ l.map encI = [] := by simpa using h0
    clear h0
    (refine zq ?_; refine Q214 ?_; (focus ((with_reducible apply AOps.eqlNil); (iterate 6 exact rfl); all_goals intro hc_)); refine Q216 ?_; refine Q57 ?_; (all_goals skip); rotate_left; refine Q45 ?_; refine Q157 ?_; refine Q215 ?_; refine zm ?_; (with_reducible apply AOps.appendS); exact rfl; (first | exact .pv rfl | exact .own rfl | exact .nil rfl); (iterate 9 exact rfl); (first | omega | (simp only [List.length_map, List.length_append, List.length_cons, List.length_nil, List.length_drop, List.length_take, List.length_set, chunk_len]; omega)); refine nz ?_; refine Q294 ?_; (all_goals skip); rotate_left)
    · exact absurd hc_ e1
    · ((first | (refine endsO_ret (Res.one (.tmp rfl rfl)) ?_) | (refine endsO_ret (Res.one (.cell1 rfl rfl rfl rfl)) ?_) | (refine endsO_nil (Res.one (.tmp rfl rfl)) ?_)); (first | rfl | simp))
theorem breaking_fn (s : SpecM) (at' : List Int) (st : Nat) (bs : List BndM) (ps : List (List Int)) (gs : List GateM) (n : Nat) (hc : CirOk gs) (hL : ∀ p ∈ ps, LitOk s st bs p) (hP : ∀ p ∈ ps, PermN n (litV 0 p.length (arF s.fields) st (vrF s.fields) bs p)) (hn : n ≤ 1000) (hg : gs.length + ps.length * (6 * n + 1) < 18000) :
    Fn Tryz.prog 15 [spc s, scp at' (st : Int), .pv (bnds bs), .pv (intss ps), crc gs] (.tup [crc (brkM gs (ps.map fun p => litV 0 p.length (arF s.fields) st (vrF s.fields) bs p)).1, litI (brkM gs (ps.map fun p => litV 0 p.length (arF s.fields) st (vrF s.fields) bs p)).2]) := by
  have hlit := fun p h => literals_fn s at' st bs p (hL p h)
  obtain ⟨so, fs, pr, fa⟩ := s
  simp only at *
  generalize hlf : (fun p : List Int => litV 0 p.length (arF fs) st (vrF fs) bs p) = lf
  have hlf' : ∀ p, litV 0 p.length (arF fs) st (vrF fs) bs p = lf p := fun p => by rw [← hlf]
  simp only [hlf'] at hlit hP
  generalize hls : ps.map lf = ls
  have hll : ls.length = ps.length := by rw [← hls, List.length_map]
  have hbk := fun k hk => brk_ok hc (ls := ls) (n := n) (by rw [← hls]; intro l hl; obtain ⟨p, hp, rfl⟩ := List.mem_map.1 hl; exact hP p hp) hn (by rw [hll]; exact hg) k hk
  have hpsl : ps.length ≤ 18000 := by
    have := Nat.le_mul_of_pos_right ps.length (show 0 < 6 * n + 1 by omega)
    omega
  refine Fn.enter (n := 58) Tryz.func15 rfl rfl rfl rfl rfl (by decide) fun g hro_ hwt_ => ?_; (try refine nz ?_)
  (refine Q105 ?_; refine Q15 ?_; refine Q332 ?_; refine Q51 ?_; refine AOps.move_ptr rfl rfl rfl ?_; refine AOps.makeFunc_f rfl rfl rfl ?_; refine AOps.assign rfl rfl rfl ?_; refine nz ?_; refine zd ?_; refine zo ?_; (with_reducible apply AW.swP 3 12 4 0); (with_reducible assumption); (iterate 3 exact rfl); refine Q261 ?_; refine zq ?_; refine zm ?_; refine zn ?_; refine Q226 ?_)
  (refine nz ?_; apply AW.loopR [25, 24, 14, 12, 11, 10, 6, 5, 2] [3, 1, 4] (fun k : Nat => ([(26, litI k), (13, litI (brkM gs (ls.take k)).2)] : List (Nat × AV))) (fun k : Nat => ([(0, some (.box [.pv (gatesV (brkM gs (ls.take k)).1)]))] : List (Nat × Option Ob))) (fun k : Nat => k ≤ ps.length) (fun k : Nat => ps.length - k) (0); (conv => lhs; simp only [Nf.lpR, Nf.all, Nat.reduceBEq, reduceAdd, reduceSub]); (all_goals skip))
  · exact Nat.zero_le _
  · exact weak rfl (by (refine ⟨.intE (by first | with_reducible rfl | (first | rfl | (unfold brkM; rfl))), ?_⟩; refine ⟨.intE (by first | with_reducible rfl | (first | rfl | (unfold brkM; rfl))), ?_⟩; refine ⟨.intE (by first | with_reducible rfl | (first | rfl | (unfold brkM; rfl))), ?_⟩; refine ⟨.pvE (by first | with_reducible rfl | (first | rfl | (unfold brkM; rfl))), ?_⟩; (iterate 2 refine ⟨.eq rfl rfl, ?_⟩); refine ⟨.intE (by first | with_reducible rfl | (first | rfl | (unfold brkM; rfl))), ?_⟩; (iterate 3 refine ⟨.eq rfl rfl, ?_⟩); refine ⟨.pvE (by first | with_reducible rfl | (first | rfl | (unfold brkM; rfl))), ?_⟩; exact trivial)) (by (refine ⟨.box _ rfl ?_, ?_⟩; refine ⟨.pvE (by first | with_reducible rfl | (first | rfl | (unfold brkM; rfl))), ?_⟩; exact trivial; refine ⟨.box _ rfl ?_, ?_⟩; refine ⟨.eq rfl rfl, ?_⟩; exact trivial; refine ⟨.box _ rfl ?_, ?_⟩; refine ⟨.pvE (by first | with_reducible rfl | (first | rfl | (unfold brkM; rfl))), ?_⟩; refine ⟨.intE (by first | with_reducible rfl | (first | rfl | (unfold brkM; rfl))), ?_⟩; exact trivial; refine ⟨.box _ rfl ?_, ?_⟩; refine ⟨.pvE (by first | with_reducible rfl | (first | rfl | (unfold brkM; rfl))), ?_⟩; refine ⟨.pvE (by first | with_reducible rfl | (first | rfl | (unfold brkM; rfl))), ?_⟩; (iterate 2 refine ⟨.eq rfl rfl, ?_⟩); (iterate 2 exact trivial))) rfl
  rintro k hk
  obtain ⟨c0, r0, l0, m0, _, _, _⟩ := hbk k (by omega)
  have hmul : k * (6 * n + 1) ≤ ps.length * (6 * n + 1) := Nat.mul_le_mul_right _ hk
  by_cases hlt : k < ps.length
  · have hmul2 : (k + 1) * (6 * n + 1) ≤ ps.length * (6 * n + 1) := Nat.mul_le_mul_right _ hlt
    rw [Nat.succ_mul] at hmul2
    have hsn := brk_snoc gs (ls := ls) (k := k) (by omega)
    have hlk : ls[k]'(by omega) = lf ps[k] := by subst hls; rw [List.getElem_map]
    rw [hlk] at hsn
    have hm := List.getElem_mem hlt
    have hPk := hP _ hm
    have hl1 := hlit _ hm
    have hso := sort_ord hPk
    have hpl := hPk.len
    generalize lf ps[k] = l at hsn hPk hl1 hso hpl
    have hcl := clone_fnO l (by omega)
    have hq := pred_lead c0 hPk hn (by omega)
    unfold brkS at hsn
    rw [hpl] at hsn hq
    generalize brkM gs (ls.take k) = p at c0 r0 l0 m0 hsn hq ⊢
    obtain ⟨g0, rr⟩ := p
    simp only at c0 r0 l0 m0 hsn hq ⊢
    have hpx := predicate_fn g0 l (ordM n) c0 hPk.ok (by omega) (fun w hw => by rw [hpl]; exact ord_mem.1 hw) (by rw [ord_len]; omega) (by rw [ord_len]; omega)
    generalize predM g0 l (ordM n) = q at hsn hq hpx
    obtain ⟨g1, r1⟩ := q
    obtain ⟨c1, s1, l1, m1, _, _, _⟩ := hq
    simp only at c1 s1 l1 m1 hsn hpx
    have q0 := (r0.mono l1).1
    have q0' := (r0.mono l1).2
    have q1 := s1.1
    have q1' := s1.2
    have hax := bAnd_fn g1 rr r1 (by omega) c1.pos (by omega) (by omega)
    have ga := and_ok c1 (r0.mono l1) s1 (by omega)
    generalize andG g1 rr r1 = a at hsn hax ga
    obtain ⟨g2, r2⟩ := a
    simp only at hsn hax ga
    have q2 := ga.ref.1
    rw [← hso] at hpx
    simp only [bO] at hpx hax
    (refine Q181 ?_; (focus ((with_reducible apply AOps.index_map); (iterate 7 exact rfl); rotate_left; omega)); refine zr ?_; refine Q51 ?_; refine Q41 ?_; refine Q80 ?_; refine zP (hl1) ?_; refine Q51 ?_; refine zm ?_; (with_reducible apply AOps.calloD (hcl)); exact lits_map (fun _ => ⟨_, rfl⟩) _; (repeat (first | exact .nil | (refine .cons rfl ?_ ?_; (first | exact .pv _ | exact .own _ _ _ _ rfl | exact .nil _ | exact .any _ | exact .rptr _ | (refine .aggL ?_; repeat (first | exact .nil | (refine .cons ?_ ?_; (first | exact .pv _ | exact .own _ _ _ _ rfl | exact .nil _)))))))); exact rfl; refine Q324 ?_; (try refine nz ?_); refine AOps.rowC (sort_rowC) [37, 18, 36] rfl ⟨rfl, rfl, rfl, trivial⟩ rfl rfl rfl ?_; (conv => rhs; simp only [Nf.rwR, Nf.all, Nat.reduceBEq, reduceAdd, reduceSub]); refine Q326 ?_; refine AOps.move_ptr rfl rfl rfl ?_; refine zm ?_; refine AOps.move_clo rfl rfl rfl ?_; refine zm ?_; refine AOps.move_own rfl rfl rfl ?_; refine Q167 ?_; refine zX (hpx) ?_; refine nx ?_; refine nz ?_; refine zX (hax) ?_; refine nx ?_; refine nz ?_; refine Q51 ?_; refine zm ?_; refine zs ?_; refine zm ?_; (iterate 2 refine AOps.guardTn rfl rfl rfl rfl rfl rfl (by first | omega | decide) ?_); refine zF ?_; refine Q45 ?_; refine Q110 ?_)
    exact ⟨k + 1, by omega, by omega, weak rfl (by (refine ⟨.intE (by first | with_reducible rfl | (first | rfl | (rw [hsn]))), ?_⟩; refine ⟨.intE (by first | with_reducible rfl | (first | rfl | (rw [hsn]))), ?_⟩; refine ⟨.intE (by first | with_reducible rfl | (first | rfl | (rw [hsn]))), ?_⟩; refine ⟨.pvE (by first | with_reducible rfl | (first | rfl | (rw [hsn]))), ?_⟩; (iterate 2 refine ⟨.eq rfl rfl, ?_⟩); refine ⟨.intE (by first | with_reducible rfl | (first | rfl | (rw [hsn]))), ?_⟩; (iterate 3 refine ⟨.eq rfl rfl, ?_⟩); refine ⟨.pvE (by first | with_reducible rfl | (first | rfl | (rw [hsn]))), ?_⟩; exact trivial)) (by (refine ⟨.box _ rfl ?_, ?_⟩; refine ⟨.pvE (by first | with_reducible rfl | (first | rfl | (rw [hsn]))), ?_⟩; exact trivial; refine ⟨.box _ rfl ?_, ?_⟩; refine ⟨.eq rfl rfl, ?_⟩; exact trivial; refine ⟨.box _ rfl ?_, ?_⟩; refine ⟨.pvE (by first | with_reducible rfl | (first | rfl | (rw [hsn]))), ?_⟩; refine ⟨.intE (by first | with_reducible rfl | (first | rfl | (rw [hsn]))), ?_⟩; exact trivial; refine ⟨.box _ rfl ?_, ?_⟩; refine ⟨.pvE (by first | with_reducible rfl | (first | rfl | (rw [hsn]))), ?_⟩; refine ⟨.pvE (by first | with_reducible rfl | (first | rfl | (rw [hsn]))), ?_⟩; (iterate 2 refine ⟨.eq rfl rfl, ?_⟩); (iterate 2 exact trivial))) rfl⟩
  · obtain rfl : k = ps.length := by omega
    rw [← hll, List.take_length]
    (refine Q52 ?_; refine Q44 ?_; refine AOps.move_ptr rfl rfl rfl ?_; refine Q158 ?_; refine Q202 ?_; refine Q62 ?_; refine Q42 ?_)
    (apply ends_ret; (exact Res.two (.cell rfl rfl rfl rfl) (.tmp rfl rfl)); (refine Le.tupL ?_; refine LeL.cons ?_ ?_; refine Le.aggL ?_; refine LeL.cons ?_ ?_; (with_reducible exact Le.pv _); exact LeL.nil; refine LeL.cons ?_ ?_; refine Le.litI ?_; (rfl); exact LeL.nil))
end Go.Ab
/- Chapter 24: chapter 11's reference: equality, composition, inverse, sorts of atoms. -/
namespace Go.Ab
open Go Go.Proofs
open Nat (reduceAdd reduceSub)
set_option maxRecDepth 20000
set_option maxHeartbeats 4000000
theorem take_eq {a b : List Int} {k : Nat} (h1 : k < a.length) (h2 : k < b.length) (h : a.take k = b.take k) (he : a[k] = b[k]) : a.take (k + 1) = b.take (k + 1) := by
  rw [take_succ_get h1, take_succ_get h2, h, he]
attribute [local irreducible] AW AOps thenD inBlockD AR iterEnds roundEndsN inlEnds noGotoD
theorem same11_fn (a b : List Int) (ha : a.length ≤ 1000000) : Fn Tryz.prog 17 [.pv (ints a), .pv (ints b)] (litB (decide (a = b))) := by
  refine Fn.enter (n := 26) Tryz.func17 rfl rfl rfl rfl rfl (by decide) fun g hro_ hwt_ => ?_; (try refine nz ?_)
  by_cases hab : a.length = b.length
  · (refine zq ?_; refine Q214 ?_; refine zn ?_; refine zm ?_; refine zn ?_; refine AOps.neq rfl rfl rfl rfl rfl ?_; refine Q234 ?_; refine Q75 ?_)
    (refine nz ?_; apply AW.loopR [0, 1] [] (fun k : Nat => ([(5, litI k)] : List (Nat × AV))) (fun k : Nat => ([] : List (Nat × Option Ob))) (fun k : Nat => k ≤ a.length ∧ a.take k = b.take k) (fun k : Nat => a.length - k) (0); (conv => lhs; simp only [Nf.lpR, Nf.all, Nat.reduceBEq, reduceAdd, reduceSub]); (all_goals skip))
    · exact ⟨Nat.zero_le _, rfl⟩
    · exact Q163
    rintro k ⟨hk, hno⟩
    by_cases hlt : k < a.length
    · have hlt2 : k < b.length := by omega
      by_cases he : a[k] = b[k]
      · have hs := take_eq hlt hlt2 hno he
        (refine Q89 ?_; (with_reducible apply AW.regionQ); exact rfl; exact rfl; kernel_rfl; (with_reducible assumption); (iterate 2 refine zm ?_); (focus ((with_reducible apply AOps.index_map); (iterate 7 exact rfl); rotate_left; omega)); refine Q252 ?_; (focus ((with_reducible apply AOps.index_map); (iterate 7 exact rfl); rotate_left; omega)); refine Q325 ?_; refine Q99 ?_)
        exact Q295
      · have hne : ¬ a = b := by rintro rfl; exact he rfl
        rw [decide_eq_false hne]
        (refine Q89 ?_; (with_reducible apply AW.regionQ); exact rfl; exact rfl; kernel_rfl; (with_reducible assumption); (iterate 2 refine zm ?_); (focus ((with_reducible apply AOps.index_map); (iterate 7 exact rfl); rotate_left; omega)); refine Q252 ?_; (focus ((with_reducible apply AOps.index_map); (iterate 7 exact rfl); rotate_left; omega)); refine Q325 ?_; refine Q83 ?_; refine Q200 ?_)
        (apply ends_ret; (exact Res.one (.tmp rfl rfl)); (refine Le.litB ?_; (rfl)))
    · have he : a = b := by
        have h1 : a.take k = a := List.take_of_length_le (by omega)
        have h2 : b.take k = b := List.take_of_length_le (by omega)
        rw [h1, h2] at hno; exact hno
      rw [decide_eq_true he]
      (refine Q10 ?_; refine Q189 ?_)
      (apply ends_ret; (exact Res.one (.tmp rfl rfl)); (refine Le.litB ?_; (rfl)))
  · have hne : ¬ a = b := by rintro rfl; exact hab rfl
    rw [decide_eq_false hne]
    (refine zq ?_; refine Q214 ?_; refine zn ?_; refine zm ?_; refine zn ?_; refine AOps.neq rfl rfl rfl rfl rfl ?_; refine Q83 ?_; refine Q57 ?_)
    (apply ends_ret; (exact Res.one (.tmp rfl rfl)); (refine Le.litB ?_; (rfl)))
attribute [local irreducible] compA
def invU (p : List Int) (k : Nat) : List Int := (List.range p.length).map fun j : Nat => if p.findIdx (fun x => decide (x = (j : Int))) < k then ((p.findIdx fun x => decide (x = (j : Int)) : Nat) : Int) else p.getD j 0
attribute [local irreducible] invU invA
theorem atoms11_fn (at' : List Int) (st : Int) (h : SmA at') : Fn Tryz.prog 117 [scp at' st] (litI at'.sum) := by
  have hb := h.take
  have hle := h.1
  refine Fn.enter (n := 20) Tryz.func117 rfl rfl rfl rfl rfl (by decide) fun g hro_ hwt_ => ?_; (try refine nz ?_)
  (refine Q64 ?_; refine Q51 ?_; refine Q135 ?_)
  (refine nz ?_; apply AW.loopR [2, 1] [0] (fun k : Nat => ([(3, litI (at'.take k).sum), (4, litI k)] : List (Nat × AV))) (fun k : Nat => ([] : List (Nat × Option Ob))) (fun k : Nat => k ≤ at'.length) (fun k : Nat => at'.length - k) (0); (conv => lhs; simp only [Nf.lpR, Nf.all, Nat.reduceBEq, reduceAdd, reduceSub]); (all_goals skip))
  · exact Nat.zero_le _
  · exact Q103
  rintro k hk
  by_cases hlt : k < at'.length
  · have hs := sum_snoc at' hlt
    have h1 := hb k
    have h2 := hb (k + 1)
    (refine Q128 ?_; refine Q287 ?_; refine Q179 ?_; refine Q329 ?_; (focus ((with_reducible apply AOps.index_map); (iterate 7 exact rfl); rotate_left; omega)); refine zr ?_; refine zj ?_; refine Q188 ?_)
    exact ⟨k + 1, by omega, by omega, weak rfl (by (refine ⟨.intE (by first | with_reducible rfl | (first | rfl | (rw [hs]))), ?_⟩; refine ⟨.intE (by first | with_reducible rfl | (first | rfl | (rw [hs]))), ?_⟩; refine ⟨.intE (by first | with_reducible rfl | (first | rfl | (rw [hs]))), ?_⟩; refine ⟨.eq rfl rfl, ?_⟩; exact trivial)) (by (refine ⟨.box _ rfl ?_, ?_⟩; refine ⟨.pvE (by first | with_reducible rfl | (first | rfl | (rw [hs]))), ?_⟩; refine ⟨.intE (by first | with_reducible rfl | (first | rfl | (rw [hs]))), ?_⟩; (iterate 2 exact trivial))) rfl⟩
  · rw [take_all (l := at') (by omega)]
    (refine Q128 ?_; refine zd ?_; refine Q44 ?_; refine zm ?_; refine Q42 ?_)
    (apply ends_ret; (exact Res.one (.tmp rfl rfl)); (refine Le.litI ?_; (rfl)))
theorem sort11_fn (at' : List Int) (st x : Int) (h : SmA at') (hx : -9223372036854775808 ≤ x ∧ x ≤ 9223372036854775807) : Fn Tryz.prog 118 [scp at' st, litI x] (litI (sortF at' x 0)) := by
  have hle := h.1
  refine Fn.enter (n := 28) Tryz.func118 rfl rfl rfl rfl rfl (by decide) fun g hro_ hwt_ => ?_; (try refine nz ?_)
  (refine Q64 ?_; refine Q135 ?_)
  (refine nz ?_; apply AW.loopR [2] [0] (fun s : Nat × Int => ([(5, litI s.1), (1, litI s.2)] : List (Nat × AV))) (fun s : Nat × Int => ([] : List (Nat × Option Ob))) (fun s : Nat × Int => s.1 ≤ at'.length ∧ -9223372036854775808 ≤ s.2 ∧ s.2 ≤ 9223372036854775807 ∧ sortF at' x 0 = sortF (at'.drop s.1) s.2 s.1) (fun s : Nat × Int => at'.length - s.1) ((0, x)); (conv => lhs; simp only [Nf.lpR, Nf.all, Nat.reduceBEq, reduceAdd, reduceSub]); (all_goals skip))
  · exact ⟨Nat.zero_le _, hx.1, hx.2, rfl⟩
  · exact Q104
  rintro ⟨j, y⟩ ⟨hj, h1, h2, he⟩
  simp only at hj h1 h2 he ⊢
  by_cases hlt : j < at'.length
  · have hz := h.2 _ (List.getElem_mem hlt)
    rw [sortF_drop hlt] at he
    by_cases hc : y < at'[j]
    · rw [if_pos hc] at he
      (refine Q308 ?_; refine Q329 ?_; (focus ((with_reducible apply AOps.index_map); (iterate 7 exact rfl); rotate_left; omega)); refine Q301 ?_; refine Q334 ?_; refine Q57 ?_; refine Q27 ?_)
      (apply ends_ret; (exact Res.one (.tmp rfl rfl)); (refine Le.litI ?_; (exact he.symm)))
    · rw [if_neg hc] at he
      (refine Q308 ?_; refine Q329 ?_; (focus ((with_reducible apply AOps.index_map); (iterate 7 exact rfl); rotate_left; omega)); refine Q301 ?_; refine Q154 ?_; refine Q179 ?_; refine Q329 ?_; (focus ((with_reducible apply AOps.index_map); (iterate 7 exact rfl); rotate_left; omega)); refine zr ?_; refine AOps.sub rfl rfl rfl rfl rfl (by omega) ?_; refine Q188 ?_)
      exact Q153
  · rw [List.drop_eq_nil_of_le (by omega)] at he
    (refine Q128 ?_; refine zd ?_; refine Q189 ?_)
    (apply ends_ret; (exact Res.one (.tmp rfl rfl)); (refine Le.litI ?_; (exact he.symm)))
end Go.Ab
/- Chapter 24: the laws' head is true. -/
namespace Go.Ab
open Go Go.Proofs
open Nat (reduceAdd reduceSub)
set_option maxRecDepth 100000
set_option maxHeartbeats 64000000
def flN : List FieldM := [⟨⟨#[102]⟩, [0], false⟩, ⟨⟨#[103]⟩, [0], true⟩]
def spN : SpecM := ⟨[(⟨#[65]⟩, false)], flN, ⟨none, 0, 0⟩, ⟨none, 0, 0⟩⟩
def dN : List BndM := [((1, []), (1, [0, 1])), ((1, []), (1, [0, 1]))]
def c0N : List GateM := [⟨0, 0, 0⟩]
theorem smN : SmA [2] := ⟨by decide, by decide⟩
theorem hDN : defM [2] spN.fields = dN := by decide +kernel
theorem frN : freeL 0 dN = [(0, 0), (0, 1), (1, 0), (1, 1)] := by decide +kernel
theorem c0N_ok : CirOk c0N := ⟨rfl, fun i h h0 => by simp [c0N] at h; omega⟩
theorem pmN : PermA ([1, 0] : List Int).length (fun _ => 0) [1, 0] := ⟨rfl, by decide, by decide, fun i h => rfl⟩
theorem litokN : LitOk spN 2 dN [1, 0] where
  stb := by decide
  nb := by decide
  sm := by decide
  hi := by decide
  rk := by rw [frN]; decide
  ar := by decide
  pl := by decide
  pa := ⟨_, pmN⟩
  mem := by rw [frN]; decide +kernel
theorem litN : litV 0 ([1, 0] : List Int).length (arF spN.fields) 2 (vrF spN.fields) dN [1, 0] = [1, 2, 4, 3, 6, 5, 8, 7] := by
  unfold litV
  rw [frN]
  decide +kernel
theorem p21 : PermOk [2, 1] := ⟨by decide, by decide⟩
theorem p123 : PermOk [1, 2, 3] := ⟨by decide, by decide⟩
theorem pdN : predM c0N [1, 2, 3] [3, 1] = (c0N, 0) := pred_id _ (by decide +kernel)
theorem bkN : brkM c0N [] = (c0N, 0) := rfl
attribute [local irreducible] AW AOps thenD inBlockD AR iterEnds roundEndsN inlEnds noGotoD predM andG brkM litV defM
theorem head24_fn : Fn Tryz.prog 5 [] (litB true) := by
  have fD := r9default_fn spN [2] 2 (by decide) (by decide) smN (by decide) (by decide)
  rw [hDN] at fD
  have fL := literals_fn spN [2] 2 dN [1, 0] litokN
  rw [litN] at fL
  have fN := c13New_fn
  have fP := pPredicate_fn c0N [2, 1] [1, 2] c0N_ok p21 (by decide) (by decide) (by decide) (by decide)
  have gP := pred_ok c0N_ok p21 (by decide) [1, 2] (by decide) (by decide)
  have fQ := pPredicate_fn c0N [1, 2, 3] [3, 1] c0N_ok p123 (by decide) (by decide) (by decide) (by decide)
  rw [pdN] at fQ
  have fB := breaking_fn spN [2] 2 dN [] c0N 0 c0N_ok (by simp) (by simp) (by decide) (by decide)
  rw [List.map_nil, bkN] at fB
  have fS := same11_fn [1, 2, 4, 3, 6, 5, 8, 7] [1, 2, 4, 3, 6, 5, 8, 7] (by decide)
  rw [decide_eq_true rfl] at fS
  generalize predM c0N [2, 1] [1, 2] = p at fP gP
  obtain ⟨g1, r1⟩ := p
  have hlen := gP.len
  simp only at fP hlen
  have hl1 : g1.length ≤ 100000 := by
    have : c0N.length = 1 := rfl
    simp only [List.length_cons, List.length_nil] at hlen
    omega
  have e1 := eval_fn g1 [false, false] r1 gP.cir gP.ref hl1 (by decide)
  have e2 := eval_fn g1 [false, true] r1 gP.cir gP.ref hl1 (by decide)
  have e3 := eval_fn g1 [true, false] r1 gP.cir gP.ref hl1 (by decide)
  have e4 := eval_fn g1 [true, true] r1 gP.cir gP.ref hl1 (by decide)
  have v1 := gP.val [false, false]
  have v2 := gP.val [false, true]
  have v3 := gP.val [true, false]
  have v4 := gP.val [true, true]
  simp only at v1 v2 v3 v4
  rw [v1, show ngF (inV [false, false]) (fun w => inV [false, false] (backM [2, 1] w)) [1, 2] = true by decide +kernel] at e1
  rw [v2, show ngF (inV [false, true]) (fun w => inV [false, true] (backM [2, 1] w)) [1, 2] = true by decide +kernel] at e2
  rw [v3, show ngF (inV [true, false]) (fun w => inV [true, false] (backM [2, 1] w)) [1, 2] = false by decide +kernel] at e3
  rw [v4, show ngF (inV [true, true]) (fun w => inV [true, true] (backM [2, 1] w)) [1, 2] = true by decide +kernel] at e4
  clear gP v1 v2 v3 v4
  have l1 := leader_fn [false, true] [[2, 1]] (fun p hp => by rw [List.mem_singleton] at hp; subst hp; exact ⟨p21, by decide⟩) (by decide)
  rw [show leadM [false, true] [[2, 1]] = true by decide +kernel] at l1
  have l2 := leader_fn [true] [[2, 1]] (fun p hp => by rw [List.mem_singleton] at hp; subst hp; exact ⟨p21, by decide⟩) (by decide)
  rw [show leadM [true] [[2, 1]] = false by decide +kernel] at l2
  have l3 := leader_fn [] [] (by simp) (by decide)
  rw [show leadM [] [] = true by decide +kernel] at l3
  refine Fn.enter (n := 109) Tryz.func5 rfl rfl rfl rfl rfl (by decide) fun g hro_ hwt_ => ?_; (try refine nz ?_)
  (refine Q177 ?_; refine AOps.buildN 69 [0] rfl rfl rfl rfl rfl rfl rfl rfl rfl ?_; refine nz ?_; refine AOps.bs1a2 rfl rfl rfl rfl rfl rfl rfl rfl rfl ?_; refine nz ?_; refine Q50 ?_; refine AOps.buildN 71 [0, 1] rfl rfl rfl rfl rfl rfl rfl rfl rfl ?_; refine nz ?_; refine Q50 ?_; refine AOps.buildN 71 [0, 1, 2] rfl rfl rfl rfl rfl rfl rfl rfl rfl ?_; refine nz ?_; refine AOps.frzB rfl rfl ?_; refine nz ?_; refine AOps.frzB rfl rfl ?_; refine nz ?_; (focus ((with_reducible apply AOps.bsA (k := 3)); (iterate 6 exact rfl); (focus ((repeat ((any_goals (apply PvR.cons)); (all_goals (try exact rfl)); (all_goals (try (repeat (first | exact PvL.nil | apply PvL.cons)))))); (any_goals (exact PvR.nil)); done)); exact rfl; exact rfl; (try refine nz ?_))); refine AOps.buildN 27 [0, 1] rfl rfl rfl rfl rfl rfl rfl rfl rfl ?_; refine nz ?_; refine Q120 ?_; refine zq ?_; refine Q50 ?_; refine AOps.buildN 30 [0, 1] rfl rfl rfl rfl rfl rfl rfl rfl rfl ?_; refine nz ?_; refine Q120 ?_; refine zq ?_; (iterate 2 refine Q41 ?_); (iterate 3 refine Q167 ?_); (with_reducible apply AOps.callo (fD)); (repeat (first | exact .nil | (refine .cons rfl ?_ ?_; (first | exact .pv _ | exact .own _ _ _ _ rfl | exact .nil _ | exact .any _ | exact .rptr _ | (refine .aggL ?_; repeat (first | exact .nil | (refine .cons ?_ ?_; (first | exact .pv _ | exact .own _ _ _ _ rfl | exact .nil _)))))))); exact rfl; refine nz ?_; refine Q31 ?_; refine Q4 ?_; (iterate 2 refine Q41 ?_); refine AOps.move_own rfl rfl rfl ?_; refine Q100 ?_; (iterate 2 refine Q167 ?_); refine zP (fL) ?_; refine Q51 ?_; refine zP (fN) ?_; (iterate 2 refine Q100 ?_); (iterate 2 refine Q167 ?_); refine zP (fP) ?_; refine Q37 ?_; refine nz ?_; refine Q51 ?_; refine zP (fN) ?_; refine AOps.bs3 rfl rfl rfl rfl rfl rfl rfl rfl rfl rfl rfl rfl rfl rfl ?_; refine nz ?_; refine Q100 ?_; (iterate 2 refine Q167 ?_); refine zP (fQ) ?_; refine Q37 ?_; refine nz ?_; refine Q5 ?_; refine zo ?_; refine Q318 ?_; show AOps .held _ _ _ [_, _, _] _ _; refine Q41 ?_; refine Q202 ?_; refine Q7 ?_; intro k_ hk_; refine nz ?_; apply AR.cut [2, 1, 0, 3, 4, 5, 6, 7, 8, 9]; intro hJ_0; apply AR.cut [2, 1, 0, 3, 4, 5, 6, 7, 8]; intro hJ_1; apply AR.cut [2, 1, 0, 3, 4, 5, 6, 7]; intro hJ_2; apply AR.cut [2, 1, 0, 3, 4, 5, 7, 8]; intro hJ_3; apply AR.cut [2, 1, 0, 3, 4, 5, 6, 8]; intro hJ_4; apply AR.cut [2, 1, 0, 3, 4, 5, 8]; intro hJ_5; apply AR.cut [2, 1, 0, 3, 8]; intro hJ_6; (refine AR.step2M (i := 3) (j := 8) rfl (by kernel_rfl) rfl rfl ?_ ?_ <;> intro g_ hgro_ hw_); refine zP (fN) ?_; refine Q7 ?_; (refine AR.step2M (i := 4) (j := 8) rfl (by kernel_rfl) rfl rfl ?_ ?_ <;> intro g_ hgro_ hw_); refine zP (fB) ?_; refine Q7 ?_; (refine AR.step2M (i := 5) (j := 8) rfl (by kernel_rfl) rfl rfl ?_ ?_ <;> intro g_ hgro_ hw_); refine Q149 ?_; (refine AR.step3M (i := 6) (j := 7) (m := 8) rfl (by kernel_rfl) rfl rfl rfl ?_ ?_ ?_ <;> intro g_ hgro_ hw_); refine Q77 ?_; (refine AR.step2M (i := 7) (j := 8) rfl (by kernel_rfl) rfl rfl ?_ ?_ <;> intro g_ hgro_ hw_); refine Q49 ?_; refine AR.gc [14, 11, 6, 4] rfl ?_; refine Q32 ?_; exact AR.perm (by kernel_rfl) hJ_2; refine Q305 ?_; exact AR.perm (by kernel_rfl) hJ_4; refine Q77 ?_; (refine AR.step2M (i := 6) (j := 8) rfl (by kernel_rfl) rfl rfl ?_ ?_ <;> intro g_ hgro_ hw_); refine Q18 ?_; refine AR.meet hJ_2 (by kernel_rfl) (fun g_ => weak rfl ?_ ?_ rfl); (iterate 49 refine ⟨.eq rfl rfl, ?_⟩); exact trivial; refine Q0 ?_; exact Q21; refine Q305 ?_; exact AR.perm (by kernel_rfl) hJ_3; refine Q305 ?_; exact AR.perm (by kernel_rfl) hJ_5; refine Q9 ?_; refine Q87 ?_; intro g_ hgro_ hw_; refine Q79 ?_; refine AR.meet hJ_5 (by kernel_rfl) (fun g_ => weak rfl ?_ ?_ rfl); (iterate 48 refine ⟨.eq rfl rfl, ?_⟩); exact trivial; exact Q170; refine Q305 ?_; exact AR.perm (by kernel_rfl) hJ_6; refine Q9 ?_; refine Q7 ?_; refine AR.step1M (i := 3) rfl (by kernel_rfl) rfl ?_; intro g_ hgro_ hw_; refine zP (fN) ?_; refine Q40 ?_; refine AR.meet hJ_6 (by kernel_rfl) (fun g_ => weak rfl ?_ ?_ rfl); (iterate 46 refine ⟨.eq rfl rfl, ?_⟩); exact trivial; exact Q170; refine AR.step1M (i := 4) rfl (by kernel_rfl) rfl ?_; intro g_ hgro_ hw_; refine zP (fB) ?_; refine Q87 ?_; intro g_ hgro_ hw_; refine Q79 ?_; refine AR.meet hJ_5 (by kernel_rfl) (fun g_ => weak rfl ?_ ?_ rfl); (iterate 48 refine ⟨.eq rfl rfl, ?_⟩); exact trivial; exact Q170; (refine AR.step2M (i := 6) (j := 7) rfl (by kernel_rfl) rfl rfl ?_ ?_ <;> intro g_ hgro_ hw_); refine Q18 ?_; refine AR.meet hJ_4 (by kernel_rfl) (fun g_ => weak rfl ?_ ?_ rfl); (iterate 49 refine ⟨.eq rfl rfl, ?_⟩); exact trivial; exact Q170; refine Q18 ?_; refine AR.meet hJ_3 (by kernel_rfl) (fun g_ => weak rfl ?_ ?_ rfl); (iterate 49 refine ⟨.eq rfl rfl, ?_⟩); exact trivial; exact Q170; (refine AR.step2L (i := 7) (j := 9) rfl (by kernel_rfl) rfl rfl (by kernel_rfl) ?_ ?_ <;> intro g_ hgro_ hwt2_); exact Q244; refine Q62 ?_; refine Q58 ?_; intro g_ hgro_ hwt2_; exact Q148; refine AR.step1M (i := 6) rfl (by kernel_rfl) rfl ?_; intro g_ hgro_ hw_; refine Q18 ?_; refine AR.meet hJ_1 (by kernel_rfl) (fun g_ => weak rfl ?_ ?_ rfl); (iterate 50 refine ⟨.eq rfl rfl, ?_⟩); exact trivial; exact Q170; refine AR.step1M (i := 8) rfl (by kernel_rfl) rfl ?_; intro g_ hgro_ hw_; refine Q9 ?_; refine Q40 ?_; refine AR.meet hJ_1 (by kernel_rfl) (fun g_ => weak rfl ?_ ?_ rfl); (iterate 50 refine ⟨.eq rfl rfl, ?_⟩); exact trivial; exact Q170; refine Q102 ?_; intro g_ hgro_ hwt2_; refine Q62 ?_; refine Q40 ?_; refine AR.meet hJ_0 (by kernel_rfl) (fun g_ => weak rfl ?_ ?_ rfl); (iterate 50 refine ⟨.eq rfl rfl, ?_⟩); exact trivial; exact Q170; refine Q60 ?_; intro g_ hgro_ hwt2_; refine Q133 ?_; refine Q4 ?_; refine zm ?_; refine AOps.bs8 rfl rfl rfl rfl rfl rfl rfl rfl rfl rfl rfl rfl rfl rfl rfl rfl rfl rfl rfl rfl rfl rfl rfl rfl rfl rfl rfl rfl rfl ?_; refine nz ?_; refine zA (fS) ?_; refine zm ?_; refine Q303 ?_; refine zA (e1) ?_; refine Q327 ?_; refine Q303 ?_; refine zA (e2) ?_; refine Q327 ?_; refine Q303 ?_; refine zA (e3) ?_; refine Q176 ?_; refine zm ?_; refine Q303 ?_; refine zA (e4) ?_; refine Q327 ?_; refine Q92 ?_; refine Q241 ?_; refine zm ?_; refine zl ?_; refine AOps.fieldAddrN 44 0 0 rfl rfl rfl rfl ?_; refine zl ?_; refine zb ?_; refine zl ?_; refine zn ?_; refine zl ?_; refine Q241 ?_; refine zm ?_; refine Q92 ?_; refine Q241 ?_; refine zm ?_; refine zl ?_; refine Q100 ?_; refine zl ?_; refine Q100 ?_; refine zl ?_; refine AOps.frzB rfl rfl ?_; refine nz ?_; refine Q50 ?_; refine zl ?_; refine zA (l1) ?_; refine Q327 ?_; refine zl ?_; refine Q50 ?_; refine zl ?_; refine Q100 ?_; refine zl ?_; refine AOps.frzB rfl rfl ?_; refine nz ?_; refine Q50 ?_; refine zl ?_; refine zA (l2) ?_; refine Q176 ?_; refine zm ?_; refine zl ?_; refine zA (l3) ?_; refine AOps.pick_lt rfl rfl rfl rfl rfl rfl ?_; refine Q42 ?_)
  (apply ends_ret; (exact Res.one (.tmp rfl rfl)); (refine Le.litB ?_; (rfl)))
end Go.Ab
/- Chapter 24: the reference's free tuples and variables, walked. -/
namespace Go.Ab
open Go Go.Proofs
open Nat (reduceAdd reduceSub)
set_option maxRecDepth 20000
set_option maxHeartbeats 4000000
attribute [local irreducible] AW AOps thenD inBlockD AR iterEnds roundEndsN inlEnds noGotoD canon diffL interL subL relOk rks freeL
theorem has9_fn (l : List Int) (x : Int) (hl : l.length ≤ 1000000) : Fn Tryz.prog 123 [.pv (ints l), litI x] (litB (decide (x ∈ l))) := by
  refine Fn.enter (n := 18) Tryz.func123 rfl rfl rfl rfl rfl (by decide) fun g hro_ hwt_ => ?_; (try refine nz ?_)
  (refine zq ?_; refine Q135 ?_)
  (refine nz ?_; apply AW.loopR [0, 1] [] (fun i : Nat => ([(5, litI i)] : List (Nat × AV))) (fun i : Nat => ([] : List (Nat × Option Ob))) (fun i : Nat => i ≤ l.length ∧ x ∉ l.take i) (fun i : Nat => l.length - i) (0); (conv => lhs; simp only [Nf.lpR, Nf.all, Nat.reduceBEq, reduceAdd, reduceSub]); (all_goals skip))
  · exact ⟨Nat.zero_le _, by simp⟩
  · exact Q163
  rintro i ⟨hi, hno⟩
  by_cases hlt : i < l.length
  · by_cases hq : l[i] = x
    · have hm : x ∈ l := by rw [← hq]; exact List.getElem_mem hlt
      rw [decide_eq_true hm]
      (refine Q204 ?_; (focus ((with_reducible apply AOps.index_map); (iterate 7 exact rfl); rotate_left; omega)); refine zr ?_; refine Q84 ?_; refine Q83 ?_; refine Q200 ?_)
      (apply ends_ret; (exact Res.one (.tmp rfl rfl)); (refine Le.litB ?_; (rfl)))
    · (refine Q204 ?_; (focus ((with_reducible apply AOps.index_map); (iterate 7 exact rfl); rotate_left; omega)); refine zr ?_; refine Q84 ?_; refine Q99 ?_)
      exact ⟨i + 1, ⟨by omega, by rw [take_succ_get hlt]; exact fun h => (List.mem_append.1 h).elim hno fun h => hq (List.mem_singleton.1 h).symm⟩, by omega, weak rfl (by (refine ⟨.eq rfl rfl, ?_⟩; (iterate 2 refine ⟨.eq rfl rfl, ?_⟩); exact trivial)) (by (exact trivial)) rfl⟩
  · rw [take_all (l := l) (by omega)] at hno
    rw [decide_eq_false hno]
    (refine Q10 ?_; refine Q189 ?_)
    (apply ends_ret; (exact Res.one (.tmp rfl rfl)); (refine Le.litB ?_; (rfl)))
theorem r9free_fn (bs : List BndM) (hb : bs.length ≤ 1000) (hb2 : ∀ x ∈ bs, x.1.2.length ≤ 100000 ∧ x.2.2.length ≤ 100000) : Fn Tryz.prog 87 [.pv (bnds bs)] (.pv (prs (freeL 0 bs))) := by
  refine Fn.enter (n := 55) Tryz.func87 rfl rfl rfl rfl rfl (by decide) fun g hro_ hwt_ => ?_; (try refine nz ?_)
  (refine Q177 ?_; refine Q135 ?_)
  (refine nz ?_; apply AW.loopR [2, 0] [] (fun k : Nat => ([(3, .own 0 147 2 ((freeL 0 (bs.take k)).map encPr)), (4, litI k)] : List (Nat × AV))) (fun k : Nat => ([(0, some .row)] : List (Nat × Option Ob))) (fun k : Nat => k ≤ bs.length) (fun k : Nat => bs.length - k) (0); (conv => lhs; simp only [Nf.lpR, Nf.all, Nat.reduceBEq, reduceAdd, reduceSub]); (all_goals skip))
  · exact Nat.zero_le _
  · exact weak rfl (by (refine ⟨.nilownE (by first | rfl | (unfold freeL; rfl) | simp [freeL]) rfl rfl, ?_⟩; refine ⟨.intE (by first | with_reducible rfl | (first | rfl | (unfold freeL; rfl) | simp [freeL])), ?_⟩; refine ⟨.eq rfl rfl, ?_⟩; refine ⟨.pvE (by first | with_reducible rfl | (first | rfl | (unfold freeL; rfl) | simp [freeL])), ?_⟩; exact trivial)) (by (refine ⟨.newrow rfl, ?_⟩; exact trivial)) rfl
  rintro k hk
  have hfl := freeL_len bs 0 k fun x hx => (hb2 x hx).2
  by_cases hlt : k < bs.length
  · have hsn := freeL_snoc bs 0 k hlt
    rw [Nat.zero_add] at hsn
    obtain ⟨hx1, hx2⟩ := hb2 _ (List.getElem_mem hlt)
    have hhs := fun t => has9_fn bs[k].1.2 t (by omega)
    (refine Q10 ?_; refine Q94 ?_; refine Q75 ?_)
    (refine nz ?_; apply AW.loopR [4, 2, 0] [] (fun i : Nat => ([(3, .own 0 147 2 ((freeL 0 (bs.take k) ++ freeO k (diffL (bs[k].2.2.take i) bs[k].1.2)).map encPr)), (5, litI i)] : List (Nat × AV))) (fun i : Nat => ([(0, some .row)] : List (Nat × Option Ob))) (fun i : Nat => i ≤ bs[k].2.2.length) (fun i : Nat => bs[k].2.2.length - i) (0); (conv => lhs; simp only [Nf.lpR, Nf.all, Nat.reduceBEq, reduceAdd, reduceSub]); (all_goals skip))
    · exact Nat.zero_le _
    · exact weak rfl (by (refine ⟨.ownE (by first | with_reducible rfl | (first | rfl | simp [freeO, diffL] | (unfold diffL; simp [freeO]))) rfl, ?_⟩; refine ⟨.intE (by first | with_reducible rfl | (first | rfl | simp [freeO, diffL] | (unfold diffL; simp [freeO]))), ?_⟩; refine ⟨.intE (by first | with_reducible rfl | (first | rfl | simp [freeO, diffL] | (unfold diffL; simp [freeO]))), ?_⟩; refine ⟨.eq rfl rfl, ?_⟩; refine ⟨.pvE (by first | with_reducible rfl | (first | rfl | simp [freeO, diffL] | (unfold diffL; simp [freeO]))), ?_⟩; exact trivial)) (by (refine ⟨.row rfl, ?_⟩; exact trivial)) rfl
    rintro i hi
    have hdl := diffL_len bs[k].2.2 bs[k].1.2 i
    have hfo : (freeO k (diffL (bs[k].2.2.take i) bs[k].1.2)).length ≤ i := by unfold freeO; rw [List.length_map]; exact hdl
    by_cases hlt2 : i < bs[k].2.2.length
    · have hs2 := undL_snoc (x := bs[k]) hlt2
      have hbi := hhs bs[k].2.2[i]
      by_cases hm : bs[k].2.2[i] ∈ bs[k].1.2
      · rw [decide_eq_true hm] at hbi
        rw [if_neg (fun h => h hm), List.append_nil] at hs2
        (refine Q46 ?_; (iterate 3 refine zm ?_); (focus ((with_reducible apply AOps.index_map); (iterate 7 exact rfl); rotate_left; omega)); refine Q107 ?_; refine Q86 ?_; refine Q287 ?_; refine zo ?_; (with_reducible apply AW.regionQ); exact rfl; exact rfl; kernel_rfl; (with_reducible assumption); (iterate 2 refine zm ?_); (focus ((with_reducible apply AOps.index_map); (iterate 7 exact rfl); rotate_left; omega)); refine Q227 ?_; refine AOps.fieldAddr_rN 105 1 1 1 rfl rfl rfl rfl ?_; refine nz ?_; refine Q252 ?_; (focus ((with_reducible apply AOps.index_map); (iterate 7 exact rfl); rotate_left; omega)); refine Q107 ?_; refine zm ?_; (focus ((with_reducible apply AOps.index_map); (iterate 7 exact rfl); rotate_left; omega)); refine zr ?_; refine zA (hbi) ?_; refine Q267 ?_; refine Q29 ?_)
        exact ⟨i + 1, by omega, by omega, weak rfl (by (refine ⟨.ownE (by first | with_reducible rfl | (first | rfl | (rw [hs2]))) rfl, ?_⟩; refine ⟨.intE (by first | with_reducible rfl | (first | rfl | (rw [hs2]))), ?_⟩; refine ⟨.intE (by first | with_reducible rfl | (first | rfl | (rw [hs2]))), ?_⟩; refine ⟨.eq rfl rfl, ?_⟩; refine ⟨.pvE (by first | with_reducible rfl | (first | rfl | (rw [hs2]))), ?_⟩; exact trivial)) (by (refine ⟨.row rfl, ?_⟩; exact trivial)) rfl⟩
      · rw [decide_eq_false hm] at hbi
        rw [if_pos hm] at hs2
        (refine Q46 ?_; (iterate 3 refine zm ?_); (focus ((with_reducible apply AOps.index_map); (iterate 7 exact rfl); rotate_left; omega)); refine Q107 ?_; refine Q86 ?_; refine Q287 ?_; refine zo ?_; (with_reducible apply AW.regionQ); exact rfl; exact rfl; kernel_rfl; (with_reducible assumption); (iterate 2 refine zm ?_); (focus ((with_reducible apply AOps.index_map); (iterate 7 exact rfl); rotate_left; omega)); refine Q227 ?_; refine AOps.fieldAddr_rN 105 1 1 1 rfl rfl rfl rfl ?_; refine nz ?_; refine Q252 ?_; (focus ((with_reducible apply AOps.index_map); (iterate 7 exact rfl); rotate_left; omega)); refine Q107 ?_; refine zm ?_; (focus ((with_reducible apply AOps.index_map); (iterate 7 exact rfl); rotate_left; omega)); refine zr ?_; refine zA (hbi) ?_; refine AOps.not rfl rfl rfl ?_; refine Q251 ?_; refine Q85 ?_; (iterate 3 refine zm ?_); (focus ((with_reducible apply AOps.index_map); (iterate 7 exact rfl); rotate_left; omega)); refine Q107 ?_; refine zm ?_; (focus ((with_reducible apply AOps.index_map); (iterate 7 exact rfl); rotate_left; omega)); refine zr ?_; refine AOps.ba2 rfl rfl rfl rfl rfl rfl rfl rfl rfl rfl rfl rfl ?_; refine AOps.bs1a2 rfl rfl rfl rfl rfl rfl rfl rfl rfl ?_; refine nz ?_; (with_reducible apply AOps.appendS); exact rfl; (first | exact .pv rfl | exact .own rfl | exact .nil rfl); (iterate 9 exact rfl); (first | omega | (simp only [List.length_map, List.length_append, List.length_cons, List.length_nil, List.length_drop, List.length_take, List.length_set, chunk_len]; omega)); refine Q300 ?_)
        exact ⟨i + 1, by omega, by omega, weak rfl (by (refine ⟨.ownE (by first | with_reducible rfl | (first | rfl | (rw [hs2]; unfold freeO; simp [encPr]))) rfl, ?_⟩; refine ⟨.intE (by first | with_reducible rfl | (first | rfl | (rw [hs2]; unfold freeO; simp [encPr]))), ?_⟩; refine ⟨.intE (by first | with_reducible rfl | (first | rfl | (rw [hs2]; unfold freeO; simp [encPr]))), ?_⟩; refine ⟨.eq rfl rfl, ?_⟩; refine ⟨.pvE (by first | with_reducible rfl | (first | rfl | (rw [hs2]; unfold freeO; simp [encPr]))), ?_⟩; exact trivial)) (by (refine ⟨.row rfl, ?_⟩; exact trivial)) rfl⟩
    · rw [take_all (l := bs[k].2.2) (by omega)]
      (refine Q46 ?_; (iterate 3 refine zm ?_); (focus ((with_reducible apply AOps.index_map); (iterate 7 exact rfl); rotate_left; omega)); refine Q107 ?_; refine Q86 ?_; refine zd ?_; refine Q201 ?_; refine Q29 ?_)
      exact ⟨k + 1, by omega, by omega, weak rfl (by (refine ⟨.ownE (by first | with_reducible rfl | (first | rfl | (rw [hsn]; rfl))) rfl, ?_⟩; refine ⟨.intE (by first | with_reducible rfl | (first | rfl | (rw [hsn]; rfl))), ?_⟩; refine ⟨.eq rfl rfl, ?_⟩; refine ⟨.pvE (by first | with_reducible rfl | (first | rfl | (rw [hsn]; rfl))), ?_⟩; exact trivial)) (by (refine ⟨.row rfl, ?_⟩; exact trivial)) rfl⟩
  · rw [take_all (l := bs) (by omega)]
    (refine Q10 ?_; refine Q44 ?_; refine Q96 ?_)
    (apply ends_ret; (exact Res.one (.tmp rfl rfl)); (exact Le.own _ _ _ _ rfl))
abbrev encT3 (v : VarT) : List PV := [.lit (.int .i64 v.1), .lit (.int .i64 v.2.1), .lit (.int .i64 v.2.2)]
abbrev varsV (l : List VarT) : PV := .slice 3 (l.map encT3)
theorem selR (k : Nat) : selV 1 (k + 1) = selV 1 k ++ [(-1, 0, (k : Int) + 1)] := selV_snoc 1 k
attribute [local irreducible] selV stP
structure VarOk (s : SpecM) (st : Nat) (bs : List BndM) : Prop where
  stb : 1 ≤ st ∧ st ≤ 4
  nb : bs.length = s.fields.length ∧ bs.length ≤ 10
  sm : ∀ x ∈ bs, x.1.2.length ≤ 2000 ∧ x.2.2.length ≤ 2000
theorem vars24_fn (s : SpecM) (at' : List Int) (st : Nat) (bs : List BndM) (h : VarOk s st bs) : Fn Tryz.prog 43 [spc s, scp at' (st : Int), .pv (bnds bs)] (.pv (varsV (varsM 1 st (freeL 0 bs) fun f => (s.fields.getD f.toNat ⟨ByteArray.empty, [], false⟩).var))) := by
  have hst1 := h.stb.1
  have hst2 := h.stb.2
  have hfree := r9free_fn bs (by have := h.nb.2; omega) (fun x hx => by have := h.sm x hx; omega)
  have hfl : (freeL 0 bs).length ≤ 1000000 := by
    have h1 := freeL_len bs 0 bs.length fun x hx => Nat.le_trans (h.sm x hx).2 (by omega)
    rw [List.take_length] at h1
    have := h.nb.2
    omega
  have hfd : ∀ (k : Nat) (hk : k < (freeL 0 bs).length), 0 ≤ (freeL 0 bs)[k].1 ∧ ∃ hh : (freeL 0 bs)[k].1.toNat < s.fields.length, (s.fields.getD (freeL 0 bs)[k].1.toNat ⟨ByteArray.empty, [], false⟩).var = s.fields[(freeL 0 bs)[k].1.toNat].var := fun k hk => by
    obtain ⟨j, hj, h1, _⟩ := freeL_mem (List.getElem_mem hk)
    have hnb := h.nb.1
    refine ⟨by omega, by omega, ?_⟩
    rw [getD_of (by omega)]
  obtain ⟨so, fs, pr, fa⟩ := s
  simp only at *
  generalize hvr : (fun f : Int => (fs.getD f.toNat ⟨ByteArray.empty, [], false⟩).var) = vr
  have hvr' : ∀ f : Int, (fs.getD f.toNat ⟨ByteArray.empty, [], false⟩).var = vr f := fun f => by rw [← hvr]
  simp only [hvr'] at hfd
  generalize freeL 0 bs = fr at hfree hfl hfd ⊢
  have hlen : ∀ s k, s ≤ st → (stP 1 st fr vr s k).length ≤ 6000000 := fun s k hs => by
    have h1 := stP_len (o := 1) (fr := fr) (vr := vr) (k := k) hs
    have h2 : (s + 1) * fr.length ≤ 5 * 1000000 := Nat.mul_le_mul (by omega) hfl
    omega
  rw [← stP_end]
  by_cases h1 : 1 < st
  · have hsn : selN st = st := if_pos h1
    refine Fn.enter (n := 78) Tryz.func43 rfl rfl rfl rfl rfl (by decide) fun g hro_ hwt_ => ?_; (try refine nz ?_)
    (refine Q105 ?_; refine Q51 ?_; refine Q61 ?_; refine Q258 ?_; refine Q83 ?_; refine Q75 ?_)
    (refine nz ?_; apply AW.loopR [6, 4, 3, 2] [1, 0] (fun k : Nat => ([(8, litI ((k : Int) + 1)), (7, .own 2 108 3 ((selV 1 k).map encT3))] : List (Nat × AV))) (fun k : Nat => ([(2, some .row)] : List (Nat × Option Ob))) (fun k : Nat => k ≤ st) (fun k : Nat => st - k) (0); (conv => lhs; simp only [Nf.lpR, Nf.all, Nat.reduceBEq, reduceAdd, reduceSub]); (all_goals skip))
    · exact Nat.zero_le _
    · rw [show selV 1 0 = [] by unfold selV; rfl]
      exact Q12
    rintro k hk
    have hol := selV_len 1 k
    by_cases hlt : k < st
    · have hs := selR k
      (refine Q98 ?_; refine Q88 ?_; refine AOps.leq rfl rfl rfl rfl rfl ?_; refine Q43 ?_; refine AOps.leq rfl rfl rfl rfl rfl ?_; refine zT ?_; refine Q287 ?_; refine Q85 ?_; refine zm ?_; refine AOps.buildN 108 [0, 2] rfl rfl rfl rfl rfl rfl rfl rfl rfl ?_; refine nz ?_; refine Q95 ?_; (with_reducible apply AOps.appendS); exact rfl; (first | exact .pv rfl | exact .own rfl | exact .nil rfl); (iterate 9 exact rfl); (first | omega | (simp only [List.length_map, List.length_append, List.length_cons, List.length_nil, List.length_drop, List.length_take, List.length_set, chunk_len]; omega)); refine Q300 ?_)
      exact ⟨k + 1, by omega, by omega, weak rfl (by (refine ⟨.intE (by first | with_reducible rfl | (first | rfl | (rw [hs, List.map_append]; rfl))), ?_⟩; refine ⟨.ownE (by first | with_reducible rfl | (first | rfl | (rw [hs, List.map_append]; rfl))) rfl, ?_⟩; (iterate 3 refine ⟨.eq rfl rfl, ?_⟩); refine ⟨.pvE (by first | with_reducible rfl | (first | rfl | (rw [hs, List.map_append]; rfl))), ?_⟩; exact trivial)) (by (refine ⟨.row rfl, ?_⟩; refine ⟨.box _ rfl ?_, ?_⟩; refine ⟨.pvE (by first | with_reducible rfl | (first | rfl | (rw [hs, List.map_append]; rfl))), ?_⟩; refine ⟨.intE (by first | with_reducible rfl | (first | rfl | (rw [hs, List.map_append]; rfl))), ?_⟩; exact trivial; refine ⟨.box _ rfl ?_, ?_⟩; refine ⟨.pvE (by first | with_reducible rfl | (first | rfl | (rw [hs, List.map_append]; rfl))), ?_⟩; refine ⟨.pvE (by first | with_reducible rfl | (first | rfl | (rw [hs, List.map_append]; rfl))), ?_⟩; (iterate 2 refine ⟨.eq rfl rfl, ?_⟩); (iterate 2 exact trivial))) rfl⟩
    · obtain rfl : st = k := by omega
      have hss : stP 1 st fr vr 0 0 = selV 1 st := by rw [stP_start, hsn]
      (refine Q98 ?_; refine Q88 ?_; refine AOps.leq rfl rfl rfl rfl rfl ?_; refine Q63 ?_; refine Q157 ?_; refine zm ?_; refine zP (hfree) ?_; refine Q135 ?_)
      (refine nz ?_; apply AW.loopR [9, 6, 4, 3, 2] [1, 0] (fun s : Nat => ([(10, litI s), (7, .own 2 108 3 ((stP 1 st fr vr s 0).map encT3))] : List (Nat × AV))) (fun s : Nat => ([(2, some .row)] : List (Nat × Option Ob))) (fun s : Nat => s ≤ st) (fun s : Nat => st - s) (0); (conv => lhs; simp only [Nf.lpR, Nf.all, Nat.reduceBEq, reduceAdd, reduceSub]); (all_goals skip))
      · exact Nat.zero_le _
      · rw [hss]
        exact Q12
      rintro s hs
      by_cases hlt : s < st
      · (refine Q98 ?_; refine Q88 ?_; refine Q185 ?_; refine Q299 ?_; refine Q75 ?_)
        (refine nz ?_; apply AW.loopR [10, 9, 6, 4, 3, 2] [1, 0] (fun k : Nat => ([(11, litI k), (7, .own 2 108 3 ((stP 1 st fr vr s k).map encT3))] : List (Nat × AV))) (fun k : Nat => ([(2, some .row)] : List (Nat × Option Ob))) (fun k : Nat => k ≤ fr.length) (fun k : Nat => fr.length - k) (0); (conv => lhs; simp only [Nf.lpR, Nf.all, Nat.reduceBEq, reduceAdd, reduceSub]); (all_goals skip))
        · exact Nat.zero_le _
        · exact Q12
        rintro k hk
        have hln := hlen s k hs
        by_cases hlt2 : k < fr.length
        · obtain ⟨hf0, hf1, hf2⟩ := hfd k hlt2
          have hst := stP_step 1 st vr s hlt2
          by_cases h0 : s = 0
          · rw [if_pos (.inl h0)] at hst
            (refine Q89 ?_; (with_reducible apply AW.regionQ); exact rfl; exact rfl; kernel_rfl; (with_reducible assumption); refine Q84 ?_; refine zm ?_; (iterate 10 refine AOps.guardFn rfl rfl rfl rfl rfl rfl (by first | omega | decide) ?_); refine zT ?_; refine Q251 ?_; refine Q242 ?_; show AOps .held _ _ _ [_, _, _, _, _, _, _, _, _, _, _, _, _] _ _; refine AOps.move_own rfl rfl rfl ?_; (iterate 3 refine zm ?_); (focus ((with_reducible apply AOps.index_map); (iterate 7 exact rfl); rotate_left; omega)); refine Q220 ?_; refine nz ?_; refine Q252 ?_; (focus ((with_reducible apply AOps.index_map); (iterate 7 exact rfl); rotate_left; omega)); refine Q239 ?_; intro k_ hk_; refine AR.step1M (i := 13) rfl (by kernel_rfl) rfl ?_; intro g_ hgro_ hw_; refine Q95 ?_; refine Q7 ?_; refine AR.step1M (i := 14) rfl (by kernel_rfl) rfl ?_; intro g_ hgro_ hw_; (with_reducible apply AOps.appendS); exact rfl; (first | exact .pv rfl | exact .own rfl | exact .nil rfl); (iterate 9 exact rfl); (first | omega | (simp only [List.length_map, List.length_append, List.length_cons, List.length_nil, List.length_drop, List.length_take, List.length_set, chunk_len]; omega)); refine Q270 ?_; intro g_ hgro_; show AOps .held _ _ _ [_] _ _; refine AOps.assign_own rfl rfl rfl ?_; refine Q7 ?_; intro k_ hk_; refine nz ?_; refine Q143 ?_)
            exact Q23
          · cases hb : fs[fr[k].1.toNat].var with
            | true =>
              rw [if_pos (.inr (hf2.trans hb))] at hst
              (refine Q89 ?_; (with_reducible apply AW.regionQ); exact rfl; exact rfl; kernel_rfl; (with_reducible assumption); refine Q84 ?_; refine Q131 ?_; refine AOps.fieldAddrN 27 1 1 rfl rfl rfl rfl ?_; refine Q70 ?_; refine Q13 ?_; (focus ((with_reducible apply AOps.index_map); (iterate 7 exact rfl); rotate_left; omega)); refine zy ?_; refine Q220 ?_; refine nz ?_; refine Q277 ?_; (focus ((with_reducible apply AOps.index_mapI); (iterate 7 exact rfl); omega; rotate_left; (first | omega | exact Nat.zero_lt_one | exact (by simp)))); refine Q144 ?_; refine zd ?_; refine AW.condYb rfl rfl (by assumption) ?_; refine Q242 ?_; show AOps .held _ _ _ [_, _, _, _, _, _, _, _, _, _, _, _, _] _ _; refine AOps.move_own rfl rfl rfl ?_; (iterate 3 refine zm ?_); (focus ((with_reducible apply AOps.index_map); (iterate 7 exact rfl); rotate_left; omega)); refine Q220 ?_; refine nz ?_; refine Q252 ?_; (focus ((with_reducible apply AOps.index_map); (iterate 7 exact rfl); rotate_left; omega)); refine Q239 ?_; intro k_ hk_; refine AR.step1M (i := 13) rfl (by kernel_rfl) rfl ?_; intro g_ hgro_ hw_; refine Q95 ?_; refine Q7 ?_; refine AR.step1M (i := 14) rfl (by kernel_rfl) rfl ?_; intro g_ hgro_ hw_; (with_reducible apply AOps.appendS); exact rfl; (first | exact .pv rfl | exact .own rfl | exact .nil rfl); (iterate 9 exact rfl); (first | omega | (simp only [List.length_map, List.length_append, List.length_cons, List.length_nil, List.length_drop, List.length_take, List.length_set, chunk_len]; omega)); refine Q270 ?_; intro g_ hgro_; show AOps .held _ _ _ [_] _ _; refine AOps.assign_own rfl rfl rfl ?_; refine Q7 ?_; intro k_ hk_; refine nz ?_; refine Q143 ?_)
              exact Q23
            | false =>
              rw [if_neg (fun h => h.elim h0 fun h => by rw [hf2.trans hb] at h; cases h)] at hst
              (refine Q89 ?_; (with_reducible apply AW.regionQ); exact rfl; exact rfl; kernel_rfl; (with_reducible assumption); refine Q84 ?_; refine Q131 ?_; refine AOps.fieldAddrN 27 1 1 rfl rfl rfl rfl ?_; refine Q70 ?_; refine Q13 ?_; (focus ((with_reducible apply AOps.index_map); (iterate 7 exact rfl); rotate_left; omega)); refine zy ?_; refine Q220 ?_; refine nz ?_; refine Q277 ?_; (focus ((with_reducible apply AOps.index_mapI); (iterate 7 exact rfl); omega; rotate_left; (first | omega | exact Nat.zero_lt_one | exact (by simp)))); refine Q144 ?_; refine zd ?_; refine AW.condNb rfl rfl (by assumption) ?_; refine AW.skip ?_; refine Q29 ?_)
              exact ⟨k + 1, by omega, by omega, weak rfl (by (refine ⟨.intE (by first | with_reducible rfl | (first | rfl | (rw [hst]))), ?_⟩; refine ⟨.ownE (by first | with_reducible rfl | (first | rfl | (rw [hst]))) rfl, ?_⟩; refine ⟨.intE (by first | with_reducible rfl | (first | rfl | (rw [hst]))), ?_⟩; refine ⟨.pvE (by first | with_reducible rfl | (first | rfl | (rw [hst]))), ?_⟩; (iterate 3 refine ⟨.eq rfl rfl, ?_⟩); refine ⟨.pvE (by first | with_reducible rfl | (first | rfl | (rw [hst]))), ?_⟩; exact trivial)) (by (refine ⟨.row rfl, ?_⟩; refine ⟨.box _ rfl ?_, ?_⟩; refine ⟨.pvE (by first | with_reducible rfl | (first | rfl | (rw [hst]))), ?_⟩; refine ⟨.intE (by first | with_reducible rfl | (first | rfl | (rw [hst]))), ?_⟩; exact trivial; refine ⟨.box _ rfl ?_, ?_⟩; refine ⟨.pvE (by first | with_reducible rfl | (first | rfl | (rw [hst]))), ?_⟩; refine ⟨.pvE (by first | with_reducible rfl | (first | rfl | (rw [hst]))), ?_⟩; (iterate 2 refine ⟨.eq rfl rfl, ?_⟩); (iterate 2 exact trivial))) rfl⟩
        · obtain rfl : k = fr.length := by omega
          have hnx := stP_next 1 st fr vr s
          (refine Q10 ?_; refine Q201 ?_; refine Q29 ?_)
          exact Q67
      · obtain rfl : st = s := by omega
        (refine Q98 ?_; refine Q88 ?_; refine zs ?_; refine Q63 ?_; refine Q157 ?_; refine Q96 ?_)
        (apply ends_ret; (exact Res.one (.tmp rfl rfl)); (exact Le.own _ _ _ _ rfl))
  · have hsn : selN st = 0 := if_neg h1
    have hss : stP 1 st fr vr 0 0 = [] := by rw [stP_start, hsn]; unfold selV; rfl
    refine Fn.enter (n := 78) Tryz.func43 rfl rfl rfl rfl rfl (by decide) fun g hro_ hwt_ => ?_; (try refine nz ?_)
    (refine Q105 ?_; refine Q51 ?_; refine Q61 ?_; refine Q258 ?_; refine Q184 ?_; refine zm ?_; refine zP (hfree) ?_; refine Q135 ?_)
    (refine nz ?_; apply AW.loopR [9, 6, 4, 3, 2] [1, 0] (fun s : Nat => ([(10, litI s), (7, .own 2 108 3 ((stP 1 st fr vr s 0).map encT3))] : List (Nat × AV))) (fun s : Nat => ([(2, some .row)] : List (Nat × Option Ob))) (fun s : Nat => s ≤ st) (fun s : Nat => st - s) (0); (conv => lhs; simp only [Nf.lpR, Nf.all, Nat.reduceBEq, reduceAdd, reduceSub]); (all_goals skip))
    · exact Nat.zero_le _
    · rw [hss]
      exact Q12
    rintro s hs
    by_cases hlt : s < st
    · (refine Q98 ?_; refine Q88 ?_; refine Q185 ?_; refine Q299 ?_; refine Q75 ?_)
      (refine nz ?_; apply AW.loopR [10, 9, 6, 4, 3, 2] [1, 0] (fun k : Nat => ([(11, litI k), (7, .own 2 108 3 ((stP 1 st fr vr s k).map encT3))] : List (Nat × AV))) (fun k : Nat => ([(2, some .row)] : List (Nat × Option Ob))) (fun k : Nat => k ≤ fr.length) (fun k : Nat => fr.length - k) (0); (conv => lhs; simp only [Nf.lpR, Nf.all, Nat.reduceBEq, reduceAdd, reduceSub]); (all_goals skip))
      · exact Nat.zero_le _
      · exact Q12
      rintro k hk
      have hln := hlen s k hs
      by_cases hlt2 : k < fr.length
      · obtain ⟨hf0, hf1, hf2⟩ := hfd k hlt2
        have hst := stP_step 1 st vr s hlt2
        by_cases h0 : s = 0
        · rw [if_pos (.inl h0)] at hst
          (refine Q89 ?_; (with_reducible apply AW.regionQ); exact rfl; exact rfl; kernel_rfl; (with_reducible assumption); refine Q84 ?_; refine zm ?_; (iterate 10 refine AOps.guardFn rfl rfl rfl rfl rfl rfl (by first | omega | decide) ?_); refine zT ?_; refine Q251 ?_; refine Q242 ?_; show AOps .held _ _ _ [_, _, _, _, _, _, _, _, _, _, _, _, _] _ _; refine AOps.move_own rfl rfl rfl ?_; (iterate 3 refine zm ?_); (focus ((with_reducible apply AOps.index_map); (iterate 7 exact rfl); rotate_left; omega)); refine Q220 ?_; refine nz ?_; refine Q252 ?_; (focus ((with_reducible apply AOps.index_map); (iterate 7 exact rfl); rotate_left; omega)); refine Q239 ?_; intro k_ hk_; refine AR.step1M (i := 13) rfl (by kernel_rfl) rfl ?_; intro g_ hgro_ hw_; refine Q95 ?_; refine Q7 ?_; refine AR.step1M (i := 14) rfl (by kernel_rfl) rfl ?_; intro g_ hgro_ hw_; (with_reducible apply AOps.appendS); exact rfl; (first | exact .pv rfl | exact .own rfl | exact .nil rfl); (iterate 9 exact rfl); (first | omega | (simp only [List.length_map, List.length_append, List.length_cons, List.length_nil, List.length_drop, List.length_take, List.length_set, chunk_len]; omega)); refine Q270 ?_; intro g_ hgro_; show AOps .held _ _ _ [_] _ _; refine AOps.assign_own rfl rfl rfl ?_; refine Q7 ?_; intro k_ hk_; refine nz ?_; refine Q143 ?_)
          exact Q23
        · exfalso
          omega
      · obtain rfl : k = fr.length := by omega
        have hnx := stP_next 1 st fr vr s
        (refine Q10 ?_; refine Q201 ?_; refine Q29 ?_)
        exact Q67
    · obtain rfl : st = s := by omega
      (refine Q98 ?_; refine Q88 ?_; refine zs ?_; refine Q63 ?_; refine Q157 ?_; refine Q96 ?_)
      (apply ends_ret; (exact Res.one (.tmp rfl rfl)); (exact Le.own _ _ _ _ rfl))
end Go.Ab
/- Chapter 24: chapter 11's reference: images, relations, permutations that are valid. -/
namespace Go.Ab
open Go Go.Proofs
open Nat (reduceAdd reduceSub)
set_option maxRecDepth 20000
set_option maxHeartbeats 4000000
attribute [local irreducible] AW AOps thenD inBlockD AR iterEnds roundEndsN inlEnds noGotoD imgR canon
theorem image11_fn {srt : Int → Int} (p : List Int) (ar : Nat) (t : Int) (hp : PermA p.length srt p) (hn : 0 < p.length) (hl : p.length ≤ 12) (ha : ar ≤ 3) (ht : 0 ≤ t ∧ t ≤ 1000000) :
    Fn Tryz.prog 95 [litI p.length, .pv (ints p), litI ar, litI t] (litI (imgR p.length p ar t)) := by
  refine Fn.enter (n := 38) Tryz.func95 rfl rfl rfl rfl rfl (by decide) fun g hro_ hwt_ => ?_; (try refine nz ?_)
  (refine Q177 ?_; refine Q51 ?_; refine Q135 ?_)
  (refine nz ?_; apply AW.loopR [8, 0, 1, 2] [] (fun i : Nat => ([(11, litI i), (3, litI (t / pwI p.length i)), (9, litI (imgR p.length p i t)), (10, litI (pwI p.length i))] : List (Nat × AV))) (fun i : Nat => ([] : List (Nat × Option Ob))) (fun i : Nat => i ≤ ar) (fun i : Nat => ar - i) (0); (conv => lhs; simp only [Nf.lpR, Nf.all, Nat.reduceBEq, reduceAdd, reduceSub]); (all_goals skip))
  · exact Nat.zero_le _
  · exact weak rfl (by (refine ⟨.intE (by first | with_reducible rfl | (first | rfl | (simp [imgR, pwI]; rfl) | simp [imgR, pwI])), ?_⟩; refine ⟨.intE (by first | with_reducible rfl | (first | rfl | (simp [imgR, pwI]; rfl) | simp [imgR, pwI])), ?_⟩; refine ⟨.intE (by first | with_reducible rfl | (first | rfl | (simp [imgR, pwI]; rfl) | simp [imgR, pwI])), ?_⟩; refine ⟨.intE (by first | with_reducible rfl | (first | rfl | (simp [imgR, pwI]; rfl) | simp [imgR, pwI])), ?_⟩; refine ⟨.intE (by first | with_reducible rfl | (first | rfl | (simp [imgR, pwI]; rfl) | simp [imgR, pwI])), ?_⟩; refine ⟨.intE (by first | with_reducible rfl | (first | rfl | (simp [imgR, pwI]; rfl) | simp [imgR, pwI])), ?_⟩; refine ⟨.pvE (by first | with_reducible rfl | (first | rfl | (simp [imgR, pwI]; rfl) | simp [imgR, pwI])), ?_⟩; refine ⟨.intE (by first | with_reducible rfl | (first | rfl | (simp [imgR, pwI]; rfl) | simp [imgR, pwI])), ?_⟩; exact trivial)) (by (exact trivial)) rfl
  rintro i hi
  by_cases hlt : i < ar
  · have hS := pw_b (n := p.length) (i := i) hl (by omega) hn
    have hS2 := pw_b (n := p.length) (i := i + 1) hl (by omega) hn
    have hsn := imgR_snoc p.length p i t
    have hT0 : 0 ≤ t / pwI p.length i := Int.ediv_nonneg ht.1 (by omega)
    have hT1 : t / pwI p.length i ≤ t := Int.ediv_le_self _ ht.1
    have hT2 : t / pwI p.length (i + 1) = t / pwI p.length i / (p.length : Int) := by
      rw [Int.ediv_ediv_of_nonneg (by omega), Int.mul_comm, ← pow_succ_cast]
    have hSn : pwI p.length (i + 1) = pwI p.length i * (p.length : Int) := by
      rw [Int.mul_comm]; exact pow_succ_cast _ _
    have hb := img_rng hp hn i t
    have hO : 0 ≤ imgR p.length p i t ∧ imgR p.length p i t < pwI p.length i := hb
    rw [hSn] at hS2
    clear hb
    generalize imgR p.length p i t = O at hO hsn ⊢
    generalize t / pwI p.length i = T at hT0 hT1 hT2 hsn ⊢
    generalize pwI p.length i = S at hS hSn hS2 hO hsn ⊢
    have hm := mod_lt hn T
    have hm0 : 0 ≤ T % (p.length : Int) := Int.emod_nonneg _ (by omega)
    have hm1 : T % (p.length : Int) < (p.length : Int) := Int.emod_lt_of_pos _ (by omega)
    have hd0 : 0 ≤ T / (p.length : Int) := Int.ediv_nonneg hT0 (by omega)
    rw [getD_of hm] at hsn
    have hx := hp.rng _ (List.getElem_mem hm)
    have hM : 0 ≤ p[(T % (p.length : Int)).toNat] * S ∧ p[(T % (p.length : Int)).toNat] * S ≤ 12 * 1728 := ⟨Int.mul_nonneg hx.1 (by omega), Int.mul_le_mul (by omega) hS.2 (by omega) (by omega)⟩
    (refine Q91 ?_; refine Q185 ?_; refine Q299 ?_; (iterate 4 refine zm ?_); refine AOps.remE rfl rfl rfl rfl rfl (by omega) ?_; (focus ((with_reducible apply AOps.index_mapI); (iterate 7 exact rfl); omega; rotate_left; (first | omega | exact Nat.zero_lt_one | exact (by simp)))); refine zr ?_; refine zm ?_; refine Q240 ?_; refine Q188 ?_)
    exact ⟨i + 1, by omega, by omega, weak rfl (by (refine ⟨.intE (by first | with_reducible rfl | (first | rfl | (rw [hT2]) | (rw [hsn]) | (rw [hSn]))), ?_⟩; refine ⟨.intE (by first | with_reducible rfl | (first | rfl | (rw [hT2]) | (rw [hsn]) | (rw [hSn]))), ?_⟩; refine ⟨.intE (by first | with_reducible rfl | (first | rfl | (rw [hT2]) | (rw [hsn]) | (rw [hSn]))), ?_⟩; refine ⟨.intE (by first | with_reducible rfl | (first | rfl | (rw [hT2]) | (rw [hsn]) | (rw [hSn]))), ?_⟩; refine ⟨.intE (by first | with_reducible rfl | (first | rfl | (rw [hT2]) | (rw [hsn]) | (rw [hSn]))), ?_⟩; refine ⟨.intE (by first | with_reducible rfl | (first | rfl | (rw [hT2]) | (rw [hsn]) | (rw [hSn]))), ?_⟩; refine ⟨.pvE (by first | with_reducible rfl | (first | rfl | (rw [hT2]) | (rw [hsn]) | (rw [hSn]))), ?_⟩; refine ⟨.intE (by first | with_reducible rfl | (first | rfl | (rw [hT2]) | (rw [hsn]) | (rw [hSn]))), ?_⟩; exact trivial)) (by (exact trivial)) rfl⟩
  · obtain rfl : i = ar := by omega
    (refine Q91 ?_; refine zs ?_; refine Q63 ?_; refine Q157 ?_; refine zm ?_; refine Q42 ?_)
    (apply ends_ret; (exact Res.one (.tmp rfl rfl)); (refine Le.litI ?_; (rfl)))
theorem rel11_fn {srt : Int → Int} (at' : List Int) (st : Int) (p : List Int) (ar : Nat) (ts : List Int) (hp : PermA p.length srt p) (hn : 0 < p.length) (hl : p.length ≤ 12) (ha : ar ≤ 3) (ht : ∀ t ∈ ts, 0 ≤ t ∧ t ≤ 1000000) (hts : ts.length ≤ 100000) :
    Fn Tryz.prog 50 [scp at' st, .pv (ints p), relA ((ar : Int), ts)] (relA ((ar : Int), canon (ts.map (imgR p.length p ar)))) := by
  have hr := fun t (h : t ∈ ts) => image11_fn p ar t hp hn hl ha (ht t h)
  have hof := rOf_fn (ar : Int) (ts.map (imgR p.length p ar)) (by rw [List.length_map]; omega)
  refine Fn.enter (n := 35) Tryz.func50 rfl rfl rfl rfl rfl (by decide) fun g hro_ hwt_ => ?_; (try refine nz ?_)
  (refine Q105 ?_; refine Q9 ?_; refine Q326 ?_; refine Q215 ?_; refine Q31 ?_; refine Q30 ?_; refine Q75 ?_)
  (refine nz ?_; apply AW.loopR [6, 5, 1] [2, 1] (fun k : Nat => ([(8, litI k), (7, .own 3 3 1 (((ts.take k).map (imgR p.length p ar)).map encI))] : List (Nat × AV))) (fun k : Nat => ([(3, some .row)] : List (Nat × Option Ob))) (fun k : Nat => k ≤ ts.length) (fun k : Nat => ts.length - k) (0); (conv => lhs; simp only [Nf.lpR, Nf.all, Nat.reduceBEq, reduceAdd, reduceSub]); (all_goals skip))
  · exact Nat.zero_le _
  · exact weak rfl (by (refine ⟨.eq rfl rfl, ?_⟩; (iterate 4 refine ⟨.eq rfl rfl, ?_⟩); exact trivial)) (by (refine ⟨.row rfl, ?_⟩; refine ⟨.box _ rfl ?_, ?_⟩; (iterate 2 refine ⟨.eq rfl rfl, ?_⟩); exact trivial; refine ⟨.box _ rfl ?_, ?_⟩; (iterate 2 refine ⟨.eq rfl rfl, ?_⟩); (iterate 2 exact trivial))) rfl
  rintro k hk
  have hml : ((ts.take k).map (imgR p.length p ar)).length ≤ ts.length := by rw [List.length_map]; exact Nat.le_trans (List.length_take_le k ts) hk
  by_cases hlt : k < ts.length
  · have h1 := hr ts[k] (List.getElem_mem hlt)
    have hs := take_succ_get hlt
    (refine Q98 ?_; refine Q39 ?_; refine Q86 ?_; refine Q287 ?_; refine AW.regionM [0, 1, 2, 3, 4, 5, 6, 7, 8, 9, 10] [] rfl (by assumption) (by kernel_rfl) (by kernel_rfl) rfl ?_; show AOps .held _ _ _ [_, _, _, _, _, _, _, _, _, _, _] _ _; refine Q319 ?_; refine zn ?_; refine zm ?_; refine Q115 ?_; refine Q39 ?_; refine zm ?_; (focus ((with_reducible apply AOps.index_map); (iterate 7 exact rfl); rotate_left; omega)); refine zr ?_; refine Q7 ?_; intro k_ hk_; refine nz ?_; refine AR.step1M (i := 11) rfl (by kernel_rfl) rfl ?_; intro g_ hgro_ hw_; refine zA (h1) ?_; refine Q307 ?_; intro g_ hgro_ hw_; refine Q50 ?_; refine Q245 ?_; intro g_ hgro_ hw_; (with_reducible apply AOps.appendS); exact rfl; (first | exact .pv rfl | exact .own rfl | exact .nil rfl); (iterate 9 exact rfl); (first | omega | (simp only [List.length_map, List.length_append, List.length_cons, List.length_nil, List.length_drop, List.length_take, List.length_set, chunk_len]; omega)); refine Q121 ?_; refine Q233 ?_; intro g_ hgro_; show AOps .held _ _ _ [_] _ _; refine AOps.assign_own rfl rfl rfl ?_; refine Q7 ?_; intro k_ hk_; refine nz ?_; refine Q143 ?_)
    exact ⟨k + 1, by omega, by omega, weak rfl (by (refine ⟨.intE (by first | with_reducible rfl | (first | rfl | (rw [hs, List.map_append, List.map_append]; rfl))), ?_⟩; refine ⟨.ownE (by first | with_reducible rfl | (first | rfl | (rw [hs, List.map_append, List.map_append]; rfl))) rfl, ?_⟩; (iterate 2 refine ⟨.eq rfl rfl, ?_⟩); refine ⟨.pvE (by first | with_reducible rfl | (first | rfl | (rw [hs, List.map_append, List.map_append]; rfl))), ?_⟩; exact trivial)) (by (refine ⟨.row rfl, ?_⟩; refine ⟨.box _ rfl ?_, ?_⟩; refine ⟨.intE (by first | with_reducible rfl | (first | rfl | (rw [hs, List.map_append, List.map_append]; rfl))), ?_⟩; refine ⟨.eq rfl rfl, ?_⟩; exact trivial; refine ⟨.box _ rfl ?_, ?_⟩; refine ⟨.intE (by first | with_reducible rfl | (first | rfl | (rw [hs, List.map_append, List.map_append]; rfl))), ?_⟩; refine ⟨.pvE (by first | with_reducible rfl | (first | rfl | (rw [hs, List.map_append, List.map_append]; rfl))), ?_⟩; (iterate 2 exact trivial))) rfl⟩
  · rw [take_all (l := ts) (by omega)]
    generalize ts.map (imgR p.length p ar) = yl at hof
    (refine Q98 ?_; refine Q39 ?_; refine Q86 ?_; refine zd ?_; refine Q44 ?_; refine Q115 ?_; refine AOps.move_own rfl rfl rfl ?_; refine Q167 ?_; refine zP (hof) ?_; refine Q62 ?_; refine zd ?_; refine AW.ret ?_)
    (apply ends_ret; (exact Res.one (.cell rfl rfl rfl rfl)); (refine Le.aggL ?_; refine LeL.cons ?_ ?_; (with_reducible exact Le.pv _); refine LeL.cons ?_ ?_; (with_reducible exact Le.pv _); exact LeL.nil))
theorem usable_fn (at' : List Int) (st : Int) (h : SmA at') (h4 : at'.length ≤ 4) (h5 : ∀ x ∈ at', x ≤ 5) (hs : at'.sum ≤ 12) : Fn Tryz.prog 149 [scp at' st] (litB true) := by
  have ha := atoms11_fn at' st h
  refine Fn.enter (n := 32) Tryz.func149 rfl rfl rfl rfl rfl (by decide) fun g hro_ hwt_ => ?_; (try refine nz ?_)
  (refine Q64 ?_; refine Q61 ?_; refine Q22 ?_; refine Q196 ?_; refine Q234 ?_; refine Q75 ?_)
  (refine nz ?_; apply AW.loopR [6, 1] [0] (fun k : Nat => ([(3, litI k)] : List (Nat × AV))) (fun k : Nat => ([] : List (Nat × Option Ob))) (fun k : Nat => k ≤ at'.length) (fun k : Nat => at'.length - k) (0); (conv => lhs; simp only [Nf.lpR, Nf.all, Nat.reduceBEq, reduceAdd, reduceSub]); (all_goals skip))
  · exact Nat.zero_le _
  · exact Q104
  rintro k hk
  by_cases hlt : k < at'.length
  · have h1 := h.2 _ (List.getElem_mem hlt)
    have h2 := h5 _ (List.getElem_mem hlt)
    (refine Q128 ?_; refine Q299 ?_; refine Q22 ?_; refine zm ?_; (focus ((with_reducible apply AOps.index_map); (iterate 7 exact rfl); rotate_left; omega)); refine Q301 ?_; refine Q131 ?_; refine Q137 ?_; refine Q131 ?_; (focus ((with_reducible apply AOps.index_map); (iterate 7 exact rfl); rotate_left; omega)); refine Q314 ?_; refine Q99 ?_)
    exact ⟨k + 1, by omega, by omega, weak rfl (by (refine ⟨.eq rfl rfl, ?_⟩; (iterate 2 refine ⟨.eq rfl rfl, ?_⟩); exact trivial)) (by (refine ⟨.box _ rfl ?_, ?_⟩; (iterate 2 refine ⟨.eq rfl rfl, ?_⟩); (iterate 2 exact trivial))) rfl⟩
  · have e := decide_eq_true hs
    (refine Q128 ?_; refine zd ?_; refine Q44 ?_; refine Q41 ?_; refine zA (ha) ?_; refine AOps.leq rfl rfl rfl rfl rfl ?_; refine Q42 ?_)
    (apply ends_ret; (exact Res.one (.tmp rfl rfl)); (refine Le.litB ?_; (first | rfl | (rw [e]))))
theorem has11_fn (l : List Int) (x : Int) (hl : l.length ≤ 1000000) : Fn Tryz.prog 119 [.pv (ints l), litI x] (litB (decide (x ∈ l))) := by
  refine Fn.enter (n := 18) Tryz.func119 rfl rfl rfl rfl rfl (by decide) fun g hro_ hwt_ => ?_; (try refine nz ?_)
  (refine zq ?_; refine Q135 ?_)
  (refine nz ?_; apply AW.loopR [0, 1] [] (fun k : Nat => ([(5, litI k)] : List (Nat × AV))) (fun k : Nat => ([] : List (Nat × Option Ob))) (fun k : Nat => k ≤ l.length ∧ x ∉ l.take k) (fun k : Nat => l.length - k) (0); (conv => lhs; simp only [Nf.lpR, Nf.all, Nat.reduceBEq, reduceAdd, reduceSub]); (all_goals skip))
  · exact ⟨Nat.zero_le _, by simp⟩
  · exact Q163
  rintro k ⟨hk, hno⟩
  by_cases hlt : k < l.length
  · by_cases he : l[k] = x
    · have hm : x ∈ l := he ▸ List.getElem_mem hlt
      rw [decide_eq_true hm]
      (refine Q204 ?_; (focus ((with_reducible apply AOps.index_map); (iterate 7 exact rfl); rotate_left; omega)); refine zr ?_; refine Q84 ?_; refine Q83 ?_; refine Q200 ?_)
      (apply ends_ret; (exact Res.one (.tmp rfl rfl)); (refine Le.litB ?_; (rfl)))
    · have hs : x ∉ l.take (k + 1) := by
        rw [take_succ_get hlt, List.mem_append]
        rintro (h | h)
        · exact hno h
        · exact he (List.mem_singleton.1 h).symm
      (refine Q204 ?_; (focus ((with_reducible apply AOps.index_map); (iterate 7 exact rfl); rotate_left; omega)); refine zr ?_; refine Q84 ?_; refine Q99 ?_)
      exact Q295
  · rw [take_all (l := l) (by omega)] at hno
    rw [decide_eq_false hno]
    (refine Q10 ?_; refine Q189 ?_)
    (apply ends_ret; (exact Res.one (.tmp rfl rfl)); (refine Le.litB ?_; (rfl)))
theorem valid11_fn (at' : List Int) (st : Int) (p : List Int) (h : SmA at') (h4 : at'.length ≤ 4) (h5 : ∀ x ∈ at', x ≤ 5) (hs : at'.sum ≤ 12) (hp : PermA p.length (fun x => sortF at' x 0) p) (hl : (p.length : Int) = at'.sum) : Fn Tryz.prog 121 [scp at' st, .pv (ints p)] (litB true) := by
  have hu := usable_fn at' st h h4 h5 hs
  have ha := atoms11_fn at' st h
  rw [← hl] at ha
  have hso := fun x hx => sort11_fn at' st x h hx
  refine Fn.enter (n := 63) Tryz.func121 rfl rfl rfl rfl rfl (by decide) fun g hro_ hwt_ => ?_; (try refine nz ?_)
  (refine Q64 ?_; refine Q61 ?_; refine Q41 ?_; refine zA (hu) ?_; refine AOps.not rfl rfl rfl ?_; refine zm ?_; refine Q92 ?_; refine zn ?_; refine zl ?_; refine Q41 ?_; refine zl ?_; refine zA (ha) ?_; refine zl ?_; refine AOps.neq rfl rfl rfl rfl rfl ?_; refine AOps.pick_lf rfl rfl rfl rfl rfl rfl ?_; refine Q234 ?_; refine Q75 ?_)
  (refine nz ?_; apply AW.loopR [14, 2, 1] [0] (fun i : Nat => ([(5, litI i)] : List (Nat × AV))) (fun i : Nat => ([] : List (Nat × Option Ob))) (fun i : Nat => i ≤ p.length) (fun i : Nat => p.length - i) (0); (conv => lhs; simp only [Nf.lpR, Nf.all, Nat.reduceBEq, reduceAdd, reduceSub]); (all_goals skip))
  · exact Nat.zero_le _
  · exact Q182
  rintro i hi
  by_cases hlt : i < p.length
  · have hx := hp.rng _ (List.getElem_mem hlt)
    have e := hp.srt i hlt
    have s1 := hso p[i] (by omega)
    have s2 := hso (i : Int) (by omega)
    rw [e] at s1
    generalize sortF at' (i : Int) 0 = sv at s1 s2
    clear e
    (refine Q10 ?_; refine Q3 ?_; (iterate 2 refine zo ?_); (with_reducible apply AW.regionQ); exact rfl; exact rfl; kernel_rfl; (with_reducible assumption); (iterate 2 refine zm ?_); (focus ((with_reducible apply AOps.index_map); (iterate 7 exact rfl); rotate_left; omega)); refine Q301 ?_; refine Q13 ?_; refine Q131 ?_; (focus ((with_reducible apply AOps.index_map); (iterate 7 exact rfl); rotate_left; omega)); refine Q277 ?_; refine Q131 ?_; refine zn ?_; refine zy ?_; refine Q195 ?_; refine Q131 ?_; refine Q41 ?_; refine zy ?_; refine Q13 ?_; (focus ((with_reducible apply AOps.index_map); (iterate 7 exact rfl); rotate_left; omega)); refine Q277 ?_; refine zA (s1) ?_; refine zy ?_; refine Q41 ?_; refine zy ?_; refine Q131 ?_; refine zA (s2) ?_; refine zy ?_; refine AOps.neq rfl rfl rfl rfl rfl ?_; refine zF ?_; refine Q184 ?_; refine Q75 ?_)
    (refine nz ?_; apply AW.loopR [5, 14, 2, 1] [0] (fun k : Nat => ([(6, litI k)] : List (Nat × AV))) (fun k : Nat => ([] : List (Nat × Option Ob))) (fun k : Nat => k ≤ i) (fun k : Nat => i - k) (0); (conv => lhs; simp only [Nf.lpR, Nf.all, Nat.reduceBEq, reduceAdd, reduceSub]); (all_goals skip))
    · exact Nat.zero_le _
    · exact Q182
    rintro k hk
    by_cases hlt2 : k < i
    · have hne : ¬ p[k] = p[i] := fun e => by
        have := (List.getElem_inj hp.nodup).1 e
        omega
      (refine Q91 ?_; refine zs ?_; refine Q287 ?_; refine zo ?_; (with_reducible apply AW.regionQ); exact rfl; exact rfl; kernel_rfl; (with_reducible assumption); (iterate 2 refine zm ?_); (focus ((with_reducible apply AOps.index_map); (iterate 7 exact rfl); rotate_left; omega)); refine Q252 ?_; (focus ((with_reducible apply AOps.index_map); (iterate 7 exact rfl); rotate_left; omega)); refine zr ?_; refine AOps.eql rfl rfl rfl rfl rfl ?_; refine Q99 ?_)
      exact ⟨k + 1, by omega, by omega, weak rfl (by (first | (refine ⟨.eq rfl rfl, ?_⟩; (iterate 4 refine ⟨.eq rfl rfl, ?_⟩); exact trivial) | (refine ⟨.eq rfl rfl, ?_⟩; (iterate 3 refine ⟨.eq rfl rfl, ?_⟩); exact trivial))) (by (refine ⟨.box _ rfl ?_, ?_⟩; (iterate 2 refine ⟨.eq rfl rfl, ?_⟩); (iterate 2 exact trivial))) rfl⟩
    · (refine Q91 ?_; refine zs ?_; refine zd ?_; refine Q201 ?_; refine Q29 ?_)
      exact ⟨i + 1, by omega, by omega, weak rfl (by (first | (refine ⟨.eq rfl rfl, ?_⟩; (iterate 4 refine ⟨.eq rfl rfl, ?_⟩); exact trivial) | (refine ⟨.eq rfl rfl, ?_⟩; (iterate 3 refine ⟨.eq rfl rfl, ?_⟩); exact trivial))) (by (refine ⟨.box _ rfl ?_, ?_⟩; (iterate 2 refine ⟨.eq rfl rfl, ?_⟩); (iterate 2 exact trivial))) rfl⟩
  · (refine Q10 ?_; refine Q189 ?_)
    (apply ends_ret; (exact Res.one (.tmp rfl rfl)); (refine Le.litB ?_; (rfl)))
end Go.Ab
