/- Chapter 19: construction steps, walked. -/
import Derived.Test.YtcklfjkaadfjjaaGreatApB2
import Derived.Test.YtcklfjkaadfjjaaGreatAbZ
import Derived.Test.YtcklfjkaadfjjaaGreatAbL3
import Derived.Test.YtcklfjkaadfjjaaGreatAbL2
set_option linter.unusedSimpArgs false
set_option linter.unusedVariables false
namespace Go.Ab
open Go Go.Proofs
open Nat (reduceAdd reduceSub)
set_option maxRecDepth 20000
set_option maxHeartbeats 4000000
attribute [local irreducible] AW AOps thenD inBlockD AR iterEnds roundEndsN inlEnds noGotoD
abbrev litU (n : Int) : AV := .pv (.lit (.int .u8 n))
abbrev encSt (s : StepG) : List PV := [.lit (.int .u8 s.k), .lit (.int .u8 s.a), .lit (.int .u8 s.b)]
abbrev stepsV (l : List StepG) : PV := .slice 3 (l.map encSt)
def StB (s : StepG) : Prop := (0 ≤ s.k ∧ s.k ≤ 255) ∧ (0 ≤ s.a ∧ s.a ≤ 255) ∧ (0 ≤ s.b ∧ s.b ≤ 255)
theorem pick_fn (refs : List Int) (n : Int) (hl : refs.length ≤ 1000000) (hr : ∀ r ∈ refs, 0 ≤ r ∧ r ≤ 1000000) (hn : 0 ≤ n ∧ n ≤ 255) : Fn Tryz.prog 75 [.pv (ints refs), litU n] (litI (pickG refs n)) := by
  unfold pickG
  have q0 : 0 ≤ n / 2 % ((refs.length : Int) + 1) := Int.emod_nonneg _ (by omega)
  have q1 : n / 2 % ((refs.length : Int) + 1) < (refs.length : Int) + 1 := Int.emod_lt_of_pos _ (by omega)
  refine Fn.enter (n := 27) Tryz.func75 rfl rfl rfl rfl rfl (by decide) fun g hro_ hwt_ => ?_; (try refine nz ?_)
  by_cases h0 : 0 < n / 2 % ((refs.length : Int) + 1)
  · rw [if_pos h0]
    have hlt : (n / 2 % ((refs.length : Int) + 1) - 1).toNat < refs.length := by omega
    have e : refs.getD (n / 2 % ((refs.length : Int) + 1) - 1).toNat 0 = refs[(n / 2 % ((refs.length : Int) + 1) - 1).toNat] := by rw [List.getD_eq_getElem?_getD, List.getElem?_eq_getElem hlt]; rfl
    rw [e]
    have hb := hr _ (List.getElem_mem hlt)
    by_cases h1 : n % 2 = 1
    · rw [if_pos h1]
      have hn := c13Not_fn refs[(n / 2 % ((refs.length : Int) + 1) - 1).toNat] (by omega)
      (refine Q106 ?_; refine zc ?_; refine Q279 ?_; refine AOps.sub rfl rfl rfl rfl rfl (by omega) ?_; (focus ((with_reducible apply AOps.index_mapI); (iterate 7 exact rfl); omega; rotate_left; (first | omega | exact Nat.zero_lt_one | exact (by simp)))); refine zr ?_; refine Q214 ?_; refine Q222 ?_; refine Q334 ?_; refine zA (hn) ?_; refine Q57 ?_)
      (apply ends_ret; (exact Res.one (.tmp rfl rfl)); (refine Le.litI ?_; (rfl)))
    · rw [if_neg h1]
      (refine Q106 ?_; refine zc ?_; refine Q279 ?_; refine AOps.sub rfl rfl rfl rfl rfl (by omega) ?_; (focus ((with_reducible apply AOps.index_mapI); (iterate 7 exact rfl); omega; rotate_left; (first | omega | exact Nat.zero_lt_one | exact (by simp)))); refine zr ?_; refine Q214 ?_; refine Q222 ?_; refine Q184 ?_; refine zm ?_; refine Q42 ?_)
      (apply ends_ret; (exact Res.one (.tmp rfl rfl)); (refine Le.litI ?_; (rfl)))
  · rw [if_neg h0]
    by_cases h1 : n % 2 = 1
    · rw [if_pos h1]
      have hn := c13Not_fn 0 (by omega)
      (refine Q106 ?_; refine Q28 ?_; refine Q30 ?_; refine zm ?_; refine Q222 ?_; refine Q334 ?_; refine zA (hn) ?_; refine Q57 ?_)
      (apply ends_ret; (exact Res.one (.tmp rfl rfl)); (refine Le.litI ?_; (rfl)))
    · rw [if_neg h1]
      (refine Q106 ?_; refine Q28 ?_; refine Q30 ?_; refine zm ?_; refine Q222 ?_; refine Q184 ?_; refine zm ?_; refine Q42 ?_)
      (apply ends_ret; (exact Res.one (.tmp rfl rfl)); (refine Le.litI ?_; (rfl)))
theorem build_fn (l : List StepG) (hs : ∀ s ∈ l, StB s) (hl : l.length ≤ 1000) : Fn Tryz.prog 8 [.pv (stepsV l)] (.tup [crc (buildG l).1, .pv (ints (buildG l).2)]) := by
  have hbo := build_ok (l := l) (fun s h => ⟨(hs s h).1.1, (hs s h).2.1.1, (hs s h).2.2.1⟩) hl
  have hnew := c13New_fn
  refine Fn.enter (n := 33) Tryz.func8 rfl rfl rfl rfl rfl (by decide) fun g hro_ hwt_ => ?_; (try refine nz ?_)
  refine AW.len_map 0 rfl fun hlen => ?_
  (refine zq ?_; refine Q9 ?_; refine Q51 ?_; refine zP (hnew) ?_; refine Q120 ?_; refine zq ?_; refine Q135 ?_)
  (refine nz ?_; apply AW.loopR [4, 3, 2, 0] [0] (fun s : Nat × List GateM × List Int => ([(6, litI s.1), (5, .own 2 3 1 (s.2.2.map encI))] : List (Nat × AV))) (fun s : Nat × List GateM × List Int => ([(1, some (.box [.pv (gatesV s.2.1)])), (2, some .row)] : List (Nat × Option Ob))) (fun s : Nat × List GateM × List Int => s.1 ≤ l.length ∧ s.2 = buildG (l.take s.1)) (fun s : Nat × List GateM × List Int => l.length - s.1) ((0, ([⟨0, 0, 0⟩], []))); (conv => lhs; simp only [Nf.lpR, Nf.all, Nat.reduceBEq, reduceAdd, reduceSub]); (all_goals skip))
  · exact ⟨Nat.zero_le _, rfl⟩
  · exact weak rfl (by (refine ⟨.eq rfl rfl, ?_⟩; refine ⟨.nilown _ _ _ rfl rfl, ?_⟩; (iterate 4 refine ⟨.eq rfl rfl, ?_⟩); exact trivial)) (by (refine ⟨.box _ rfl ?_, ?_⟩; refine ⟨.eq rfl rfl, ?_⟩; exact trivial; refine ⟨.newrow rfl, ?_⟩; refine ⟨.box _ rfl ?_, ?_⟩; refine ⟨.eq rfl rfl, ?_⟩; (iterate 2 exact trivial))) rfl
  rintro ⟨i, gs, refs⟩ ⟨hi, hst⟩
  simp only at hi hst ⊢
  have hb := hbo i hi
  rw [← hst] at hb
  by_cases hlt : i < l.length
  · have hsn := buildG_snoc hlt
    rw [← hst] at hsn
    obtain ⟨hc, hr, hgl, hrl⟩ := hb
    simp only at hc hr hgl hrl
    obtain ⟨b1, b2, b3⟩ := hs _ (List.getElem_mem hlt)
    have hrr : ∀ r ∈ refs, 0 ≤ r ∧ r ≤ 1000000 := fun r h => by have := hr r h; unfold RefOk at this; omega
    have pa := pick_fn refs l[i].a (by omega) hrr b2
    have pb := pick_fn refs l[i].b (by omega) hrr b3
    have oa := pick_ok hc hr b2.1
    have ob := pick_ok hc hr b3.1
    have hin := input_fn gs (l[i].a % 8 + 1) (by omega)
    have hd : stepG (gs, refs) l[i] = ((doG gs refs l[i]).1, refs ++ [(doG gs refs l[i]).2]) := rfl
    rw [hd] at hsn
    unfold doG at hsn
    unfold RefOk at oa ob
    generalize pickG refs l[i].a = a at pa oa hsn
    generalize pickG refs l[i].b = b at pb ob hsn
    have hand := and_fn gs a b (by omega) (by omega) (by omega)
    have ho2 := (or_ok hc (a := a) (b := b) oa ob (by omega)).ref
    have hor := or_fn gs a b (by omega) (by omega) (by omega) (by
      have na := notR_b (r := a) (by omega)
      have nb := notR_b (r := b) (by omega)
      have := andG_b (gs := gs) (a := notR a) (b := notR b) (by omega) (by omega) (by omega)
      omega)
    have hiff := iff_fn gs a b (by omega) (by omega) (by omega)
    by_cases k0 : l[i].k % 4 = 0
    · rw [if_pos k0] at hsn
      generalize inputG gs (l[i].a % 8 + 1) = q at hin hsn
      obtain ⟨gs', r⟩ := q
      simp only at hin hsn
      (refine Q89 ?_; refine Q165 ?_; show AOps .held _ _ _ [_, _, _, _, _, _] _ _; refine Q289 ?_; (focus ((with_reducible apply AOps.index_map); (iterate 7 exact rfl); rotate_left; omega)); refine Q74 ?_; refine Q7 ?_; intro k_ hk_; apply AR.cut [5, 4, 3, 2, 1, 0, 6, 7, 8, 9, 10, 11]; intro hJ_0; apply AR.cut [5, 4, 3, 2, 1, 0, 6, 7, 8, 9, 10]; intro hJ_1; apply AR.cut [5, 4, 3, 2, 1, 0, 6, 7, 8, 10]; intro hJ_2; apply AR.cut [5, 4, 3, 2, 1, 0, 6, 7, 9, 10]; intro hJ_3; apply AR.cut [5, 4, 3, 2, 1, 0, 6, 7, 8, 9]; intro hJ_4; apply AR.cut [5, 4, 3, 2, 1, 0, 6, 7, 10]; intro hJ_5; (refine AR.step2K (i := 6) (j := 10) rfl (by kernel_rfl) rfl rfl (by kernel_rfl) ?_ ?_ <;> intro g_ hgro_ hwt2_); (with_reducible apply AOps.inline (hf := Tryz.func28)); (with_reducible assumption); (iterate 10 exact rfl); intro g_ hro_ hwt_; refine nz ?_; refine Q194 ?_; refine Q121 ?_; (refine AR.step2LL (i := 7) (j := 10) rfl (by kernel_rfl) rfl rfl (by kernel_rfl) ?_ ?_ <;> intro g_ hgro_ hwt2_); refine Q149 ?_; (refine AR.step3L (i := 8) (j := 9) (m := 10) rfl (by kernel_rfl) rfl rfl rfl (by kernel_rfl) ?_ ?_ ?_ <;> intro g_ hgro_ hwt2_); refine Q77 ?_; (refine AR.step2LL (i := 9) (j := 10) rfl (by kernel_rfl) rfl rfl (by kernel_rfl) ?_ ?_ <;> intro g_ hgro_ hwt2_); exact Q210; refine Q117 ?_; exact AR.perm (by kernel_rfl) hJ_2; refine Q77 ?_; (refine AR.step2LL (i := 8) (j := 10) rfl (by kernel_rfl) rfl rfl (by kernel_rfl) ?_ ?_ <;> intro g_ hgro_ hwt2_); exact Q118; refine Q117 ?_; exact AR.perm (by kernel_rfl) hJ_3; refine Q117 ?_; exact AR.perm (by kernel_rfl) hJ_5; refine Q9 ?_; refine Q58 ?_; intro g_ hgro_ hwt2_; refine Q79 ?_; exact Q54; refine Q9 ?_; refine Q7 ?_; refine Q124 ?_; intro g_ hgro_ hwt2_; (with_reducible apply AOps.inline (hf := Tryz.func28)); (with_reducible assumption); (iterate 10 exact rfl); intro g_ hro_ hwt_; refine nz ?_; refine Q194 ?_; refine nz ?_; refine Q58 ?_; intro g_ hgro_ hwt2_; exact Q126; (refine AR.step2LL (i := 8) (j := 9) rfl (by kernel_rfl) rfl rfl (by kernel_rfl) ?_ ?_ <;> intro g_ hgro_ hwt2_); exact Q132; exact Q122; refine Q60 ?_; intro g_ hgro_ hwt2_; exact Q290; refine Q123 ?_; intro g_ hgro_ hwt2_; exact Q48; (refine AR.step2LL (i := 9) (j := 11) rfl (by kernel_rfl) rfl rfl (by kernel_rfl) ?_ ?_ <;> intro g_ hgro_ hwt2_); exact Q48; refine Q292 ?_; refine Q102 ?_; intro g_ hgro_ hwt2_; exact Q148; refine Q171 ?_; intro g_ hgro_ hwt2_; exact Q109; refine Q231 ?_; intro g_ hgro_ hwt2_; refine Q238 ?_; (with_reducible apply AOps.appendS); exact rfl; (first | exact .pv rfl | exact .own rfl | exact .nil rfl); (iterate 9 exact rfl); (first | omega | (simp only [List.length_map, List.length_append, List.length_cons, List.length_nil, List.length_drop, List.length_take, List.length_set, chunk_len]; omega)); refine Q300 ?_)
      exact Q24
    · rw [if_neg k0] at hsn
      by_cases k1 : l[i].k % 4 = 1
      · rw [if_pos k1] at hsn
        generalize andG gs a b = q at hand hsn
        obtain ⟨gs', r⟩ := q
        simp only at hand hsn
        (refine Q89 ?_; refine Q165 ?_; show AOps .held _ _ _ [_, _, _, _, _, _] _ _; refine Q289 ?_; (focus ((with_reducible apply AOps.index_map); (iterate 7 exact rfl); rotate_left; omega)); refine Q74 ?_; refine Q7 ?_; intro k_ hk_; apply AR.cut [5, 4, 3, 2, 1, 0, 6, 7, 8, 9, 10, 11]; intro hJ_0; apply AR.cut [5, 4, 3, 2, 1, 0, 6, 7, 8, 9, 10]; intro hJ_1; apply AR.cut [5, 4, 3, 2, 1, 0, 6, 7, 8, 10]; intro hJ_2; apply AR.cut [5, 4, 3, 2, 1, 0, 6, 7, 9, 10]; intro hJ_3; apply AR.cut [5, 4, 3, 2, 1, 0, 6, 7, 8, 9]; intro hJ_4; apply AR.cut [5, 4, 3, 2, 1, 0, 6, 7, 10]; intro hJ_5; (refine AR.step2K (i := 6) (j := 10) rfl (by kernel_rfl) rfl rfl (by kernel_rfl) ?_ ?_ <;> intro g_ hgro_ hwt2_); (with_reducible apply AOps.inline (hf := Tryz.func28)); (with_reducible assumption); (iterate 10 exact rfl); intro g_ hro_ hwt_; refine nz ?_; refine Q105 ?_; refine Q17 ?_; refine Q108 ?_; refine zc ?_; refine Q4 ?_; refine Q80 ?_; refine zP (hand) ?_; refine Q81 ?_; refine Q121 ?_; (refine AR.step2LL (i := 7) (j := 10) rfl (by kernel_rfl) rfl rfl (by kernel_rfl) ?_ ?_ <;> intro g_ hgro_ hwt2_); refine Q149 ?_; (refine AR.step3L (i := 8) (j := 9) (m := 10) rfl (by kernel_rfl) rfl rfl rfl (by kernel_rfl) ?_ ?_ ?_ <;> intro g_ hgro_ hwt2_); refine Q77 ?_; (refine AR.step2LL (i := 9) (j := 10) rfl (by kernel_rfl) rfl rfl (by kernel_rfl) ?_ ?_ <;> intro g_ hgro_ hwt2_); exact Q210; refine Q117 ?_; exact AR.perm (by kernel_rfl) hJ_2; refine Q77 ?_; (refine AR.step2LL (i := 8) (j := 10) rfl (by kernel_rfl) rfl rfl (by kernel_rfl) ?_ ?_ <;> intro g_ hgro_ hwt2_); exact Q118; refine Q117 ?_; exact AR.perm (by kernel_rfl) hJ_3; refine Q117 ?_; exact AR.perm (by kernel_rfl) hJ_5; refine Q9 ?_; refine Q58 ?_; intro g_ hgro_ hwt2_; refine Q79 ?_; exact Q54; refine Q9 ?_; refine Q7 ?_; refine Q124 ?_; intro g_ hgro_ hwt2_; (with_reducible apply AOps.inline (hf := Tryz.func28)); (with_reducible assumption); (iterate 10 exact rfl); intro g_ hro_ hwt_; refine nz ?_; refine Q105 ?_; refine Q17 ?_; refine Q108 ?_; refine zc ?_; refine Q4 ?_; refine Q80 ?_; refine zP (hand) ?_; refine Q81 ?_; refine nz ?_; refine Q58 ?_; intro g_ hgro_ hwt2_; exact Q126; (refine AR.step2LL (i := 8) (j := 9) rfl (by kernel_rfl) rfl rfl (by kernel_rfl) ?_ ?_ <;> intro g_ hgro_ hwt2_); exact Q132; exact Q122; refine Q60 ?_; intro g_ hgro_ hwt2_; exact Q290; refine Q123 ?_; intro g_ hgro_ hwt2_; exact Q48; (refine AR.step2LL (i := 9) (j := 11) rfl (by kernel_rfl) rfl rfl (by kernel_rfl) ?_ ?_ <;> intro g_ hgro_ hwt2_); exact Q48; refine Q292 ?_; refine Q102 ?_; intro g_ hgro_ hwt2_; exact Q148; refine Q171 ?_; intro g_ hgro_ hwt2_; exact Q109; refine Q231 ?_; intro g_ hgro_ hwt2_; refine Q238 ?_; (with_reducible apply AOps.appendS); exact rfl; (first | exact .pv rfl | exact .own rfl | exact .nil rfl); (iterate 9 exact rfl); (first | omega | (simp only [List.length_map, List.length_append, List.length_cons, List.length_nil, List.length_drop, List.length_take, List.length_set, chunk_len]; omega)); refine Q300 ?_)
        exact Q24
      · rw [if_neg k1] at hsn
        by_cases k2 : l[i].k % 4 = 2
        · rw [if_pos k2] at hsn
          generalize orG gs a b = q at hor hsn
          obtain ⟨gs', r⟩ := q
          simp only at hor hsn
          (refine Q89 ?_; refine Q165 ?_; show AOps .held _ _ _ [_, _, _, _, _, _] _ _; refine Q289 ?_; (focus ((with_reducible apply AOps.index_map); (iterate 7 exact rfl); rotate_left; omega)); refine Q74 ?_; refine Q7 ?_; intro k_ hk_; apply AR.cut [5, 4, 3, 2, 1, 0, 6, 7, 8, 9, 10, 11]; intro hJ_0; apply AR.cut [5, 4, 3, 2, 1, 0, 6, 7, 8, 9, 10]; intro hJ_1; apply AR.cut [5, 4, 3, 2, 1, 0, 6, 7, 8, 10]; intro hJ_2; apply AR.cut [5, 4, 3, 2, 1, 0, 6, 7, 9, 10]; intro hJ_3; apply AR.cut [5, 4, 3, 2, 1, 0, 6, 7, 8, 9]; intro hJ_4; apply AR.cut [5, 4, 3, 2, 1, 0, 6, 7, 10]; intro hJ_5; (refine AR.step2K (i := 6) (j := 10) rfl (by kernel_rfl) rfl rfl (by kernel_rfl) ?_ ?_ <;> intro g_ hgro_ hwt2_); (with_reducible apply AOps.inline (hf := Tryz.func28)); (with_reducible assumption); (iterate 10 exact rfl); intro g_ hro_ hwt_; refine nz ?_; refine Q105 ?_; refine Q17 ?_; (iterate 2 refine Q108 ?_); refine zc ?_; refine Q4 ?_; refine Q80 ?_; refine zP (hor) ?_; refine Q81 ?_; refine Q121 ?_; (refine AR.step2LL (i := 7) (j := 10) rfl (by kernel_rfl) rfl rfl (by kernel_rfl) ?_ ?_ <;> intro g_ hgro_ hwt2_); refine Q149 ?_; (refine AR.step3L (i := 8) (j := 9) (m := 10) rfl (by kernel_rfl) rfl rfl rfl (by kernel_rfl) ?_ ?_ ?_ <;> intro g_ hgro_ hwt2_); refine Q77 ?_; (refine AR.step2LL (i := 9) (j := 10) rfl (by kernel_rfl) rfl rfl (by kernel_rfl) ?_ ?_ <;> intro g_ hgro_ hwt2_); exact Q210; refine Q117 ?_; exact AR.perm (by kernel_rfl) hJ_2; refine Q77 ?_; (refine AR.step2LL (i := 8) (j := 10) rfl (by kernel_rfl) rfl rfl (by kernel_rfl) ?_ ?_ <;> intro g_ hgro_ hwt2_); exact Q118; refine Q117 ?_; exact AR.perm (by kernel_rfl) hJ_3; refine Q117 ?_; exact AR.perm (by kernel_rfl) hJ_5; refine Q9 ?_; refine Q58 ?_; intro g_ hgro_ hwt2_; refine Q79 ?_; exact Q54; refine Q9 ?_; refine Q7 ?_; refine Q124 ?_; intro g_ hgro_ hwt2_; (with_reducible apply AOps.inline (hf := Tryz.func28)); (with_reducible assumption); (iterate 10 exact rfl); intro g_ hro_ hwt_; refine nz ?_; refine Q105 ?_; refine Q17 ?_; (iterate 2 refine Q108 ?_); refine zc ?_; refine Q4 ?_; refine Q80 ?_; refine zP (hor) ?_; refine Q81 ?_; refine nz ?_; refine Q58 ?_; intro g_ hgro_ hwt2_; exact Q126; (refine AR.step2LL (i := 8) (j := 9) rfl (by kernel_rfl) rfl rfl (by kernel_rfl) ?_ ?_ <;> intro g_ hgro_ hwt2_); exact Q132; exact Q122; refine Q60 ?_; intro g_ hgro_ hwt2_; exact Q290; refine Q123 ?_; intro g_ hgro_ hwt2_; exact Q48; (refine AR.step2LL (i := 9) (j := 11) rfl (by kernel_rfl) rfl rfl (by kernel_rfl) ?_ ?_ <;> intro g_ hgro_ hwt2_); exact Q48; refine Q292 ?_; refine Q102 ?_; intro g_ hgro_ hwt2_; exact Q148; refine Q171 ?_; intro g_ hgro_ hwt2_; exact Q109; refine Q231 ?_; intro g_ hgro_ hwt2_; refine Q238 ?_; (with_reducible apply AOps.appendS); exact rfl; (first | exact .pv rfl | exact .own rfl | exact .nil rfl); (iterate 9 exact rfl); (first | omega | (simp only [List.length_map, List.length_append, List.length_cons, List.length_nil, List.length_drop, List.length_take, List.length_set, chunk_len]; omega)); refine Q300 ?_)
          exact Q24
        · rw [if_neg k2] at hsn
          generalize iffG gs a b = q at hiff hsn
          obtain ⟨gs', r⟩ := q
          simp only at hiff hsn
          (refine Q89 ?_; refine Q165 ?_; show AOps .held _ _ _ [_, _, _, _, _, _] _ _; refine Q289 ?_; (focus ((with_reducible apply AOps.index_map); (iterate 7 exact rfl); rotate_left; omega)); refine Q74 ?_; refine Q7 ?_; intro k_ hk_; apply AR.cut [5, 4, 3, 2, 1, 0, 6, 7, 8, 9, 10, 11]; intro hJ_0; apply AR.cut [5, 4, 3, 2, 1, 0, 6, 7, 8, 9, 10]; intro hJ_1; apply AR.cut [5, 4, 3, 2, 1, 0, 6, 7, 8, 10]; intro hJ_2; apply AR.cut [5, 4, 3, 2, 1, 0, 6, 7, 9, 10]; intro hJ_3; apply AR.cut [5, 4, 3, 2, 1, 0, 6, 7, 8, 9]; intro hJ_4; apply AR.cut [5, 4, 3, 2, 1, 0, 6, 7, 10]; intro hJ_5; (refine AR.step2K (i := 6) (j := 10) rfl (by kernel_rfl) rfl rfl (by kernel_rfl) ?_ ?_ <;> intro g_ hgro_ hwt2_); (with_reducible apply AOps.inline (hf := Tryz.func28)); (with_reducible assumption); (iterate 10 exact rfl); intro g_ hro_ hwt_; refine nz ?_; refine Q237 ?_; refine Q121 ?_; (refine AR.step2LL (i := 7) (j := 10) rfl (by kernel_rfl) rfl rfl (by kernel_rfl) ?_ ?_ <;> intro g_ hgro_ hwt2_); refine Q149 ?_; (refine AR.step3L (i := 8) (j := 9) (m := 10) rfl (by kernel_rfl) rfl rfl rfl (by kernel_rfl) ?_ ?_ ?_ <;> intro g_ hgro_ hwt2_); refine Q77 ?_; (refine AR.step2LL (i := 9) (j := 10) rfl (by kernel_rfl) rfl rfl (by kernel_rfl) ?_ ?_ <;> intro g_ hgro_ hwt2_); exact Q210; refine Q117 ?_; exact AR.perm (by kernel_rfl) hJ_2; refine Q77 ?_; (refine AR.step2LL (i := 8) (j := 10) rfl (by kernel_rfl) rfl rfl (by kernel_rfl) ?_ ?_ <;> intro g_ hgro_ hwt2_); exact Q118; refine Q117 ?_; exact AR.perm (by kernel_rfl) hJ_3; refine Q117 ?_; exact AR.perm (by kernel_rfl) hJ_5; refine Q9 ?_; refine Q58 ?_; intro g_ hgro_ hwt2_; refine Q79 ?_; exact Q54; refine Q9 ?_; refine Q7 ?_; refine Q124 ?_; intro g_ hgro_ hwt2_; (with_reducible apply AOps.inline (hf := Tryz.func28)); (with_reducible assumption); (iterate 10 exact rfl); intro g_ hro_ hwt_; refine nz ?_; refine Q237 ?_; refine nz ?_; refine Q58 ?_; intro g_ hgro_ hwt2_; exact Q126; (refine AR.step2LL (i := 8) (j := 9) rfl (by kernel_rfl) rfl rfl (by kernel_rfl) ?_ ?_ <;> intro g_ hgro_ hwt2_); exact Q132; exact Q122; refine Q60 ?_; intro g_ hgro_ hwt2_; exact Q290; refine Q123 ?_; intro g_ hgro_ hwt2_; exact Q48; (refine AR.step2LL (i := 9) (j := 11) rfl (by kernel_rfl) rfl rfl (by kernel_rfl) ?_ ?_ <;> intro g_ hgro_ hwt2_); exact Q48; refine Q292 ?_; refine Q102 ?_; intro g_ hgro_ hwt2_; exact Q148; refine Q171 ?_; intro g_ hgro_ hwt2_; exact Q109; refine Q231 ?_; intro g_ hgro_ hwt2_; refine Q238 ?_; (with_reducible apply AOps.appendS); exact rfl; (first | exact .pv rfl | exact .own rfl | exact .nil rfl); (iterate 9 exact rfl); (first | omega | (simp only [List.length_map, List.length_append, List.length_cons, List.length_nil, List.length_drop, List.length_take, List.length_set, chunk_len]; omega)); refine Q300 ?_)
          exact Q24
  · rw [take_all (l := l) (by omega)] at hst
    rw [← hst]
    (refine Q10 ?_; refine Q44 ?_; refine Q41 ?_; refine AOps.move_own rfl rfl rfl ?_; refine Q62 ?_; refine Q294 ?_)
    (apply ends_ret; (exact Res.two (.cell rfl rfl rfl rfl) (.tmp rfl rfl)); (refine Le.tupL ?_; refine LeL.cons ?_ ?_; refine Le.aggL ?_; refine LeL.cons ?_ ?_; (with_reducible exact Le.pv _); exact LeL.nil; refine LeL.cons ?_ ?_; exact Le.own _ _ _ _ rfl; exact LeL.nil))
end Go.Ab
/- Chapter 24: the law's permutation; the circuits' Valid and Same, walked. -/
namespace Go.Ab
open Go Go.Proofs
open Nat (reduceAdd reduceSub)
set_option maxRecDepth 20000
set_option maxHeartbeats 4000000
theorem getD_of {α : Type} {l : List α} {i : Nat} {d : α} (h : i < l.length) : l.getD i d = l[i] := by rw [List.getD_eq_getElem?_getD, List.getElem?_eq_getElem h]; rfl
theorem perm_snoc {raw : List Int} {i : Nat} (hlt : i < raw.length) : permM raw (i + 1) = ((permM raw i).set i ((permM raw i)[(raw[i] % (raw.length : Int)).toNat]'(by
    have hk := raw_lt hlt
    rw [getD_of hlt] at hk
    have := (perm_n raw i (by omega)).len
    omega))).set (raw[i] % (raw.length : Int)).toNat ((permM raw i)[i]'(by have := (perm_n raw i (by omega)).len; omega)) := by
  have hk := raw_lt hlt
  rw [getD_of hlt] at hk
  have hl := (perm_n raw i (by omega)).len
  have e : raw.getD i 0 = raw[i] := getD_of hlt
  show swapL (permM raw i) i (raw.getD i 0 % (raw.length : Int)).toNat = _
  unfold swapL
  simp only [e]
  rw [getD_of (l := permM raw i) (i := i) (by omega), getD_of (l := permM raw i) (i := (raw[i] % (raw.length : Int)).toNat) (by omega)]
attribute [local irreducible] AW AOps thenD inBlockD AR iterEnds roundEndsN inlEnds noGotoD canon ordM invM backM atM ngF permM swapL
theorem ord24_fnO (n : Nat) (hn : n ≤ 1000) : FnO Tryz.prog 7 [litI n] 3 1 ((ordM n).map nI) := by
  rw [show (ordM n).map nI = (ordM n).map encI from rfl]
  refine FnO.enter (n := 19) Tryz.func7 rfl rfl rfl rfl rfl (by decide) fun g hro_ hwt_ => ?_; (try refine nz ?_)
  (refine Q177 ?_; refine Q135 ?_)
  (refine nz ?_; apply AW.loopR [2, 0] [] (fun i : Nat => ([(4, litI ((i : Int) + 1)), (3, .own 0 3 1 ((ordM i).map encI))] : List (Nat × AV))) (fun i : Nat => ([(0, some .row)] : List (Nat × Option Ob))) (fun i : Nat => i ≤ n) (fun i : Nat => n - i) (0); (conv => lhs; simp only [Nf.lpR, Nf.all, Nat.reduceBEq, reduceAdd, reduceSub]); (all_goals skip))
  · exact Nat.zero_le _
  · exact weak rfl (by (refine ⟨.intE (by first | with_reducible rfl | (first | rfl | (unfold ordM; rfl))), ?_⟩; refine ⟨.nilownE (by first | rfl | (unfold ordM; rfl)) rfl rfl, ?_⟩; refine ⟨.eq rfl rfl, ?_⟩; refine ⟨.intE (by first | with_reducible rfl | (first | rfl | (unfold ordM; rfl))), ?_⟩; exact trivial)) (by (refine ⟨.newrow rfl, ?_⟩; exact trivial)) rfl
  rintro i hi
  have hl := ord_len i
  by_cases hlt : i < n
  · have hsn := ord_snoc i
    (refine Q91 ?_; refine AOps.leq rfl rfl rfl rfl rfl ?_; refine Q43 ?_; refine AOps.leq rfl rfl rfl rfl rfl ?_; refine zT ?_; refine Q287 ?_; refine Q339 ?_; (with_reducible apply AOps.appendS); exact rfl; (first | exact .pv rfl | exact .own rfl | exact .nil rfl); (iterate 9 exact rfl); (first | omega | (simp only [List.length_map, List.length_append, List.length_cons, List.length_nil, List.length_drop, List.length_take, List.length_set, chunk_len]; omega)); refine Q300 ?_)
    exact ⟨i + 1, by omega, by omega, weak rfl (by (refine ⟨.intE (by first | with_reducible rfl | (first | rfl | (rw [hsn, List.map_append]; rfl))), ?_⟩; refine ⟨.ownE (by first | with_reducible rfl | (first | rfl | (rw [hsn, List.map_append]; rfl))) rfl, ?_⟩; refine ⟨.eq rfl rfl, ?_⟩; refine ⟨.intE (by first | with_reducible rfl | (first | rfl | (rw [hsn, List.map_append]; rfl))), ?_⟩; exact trivial)) (by (refine ⟨.row rfl, ?_⟩; exact trivial)) rfl⟩
  · obtain rfl : i = n := by omega
    (refine Q91 ?_; refine AOps.leq rfl rfl rfl rfl rfl ?_; refine Q63 ?_; refine Q157 ?_; refine Q96 ?_)
    ((first | (refine endsO_ret (Res.one (.tmp rfl rfl)) ?_) | (refine endsO_ret (Res.one (.cell1 rfl rfl rfl rfl)) ?_) | (refine endsO_nil (Res.one (.tmp rfl rfl)) ?_)); (rfl))
abbrev bytes24 (l : List Int) : PV := .slice 1 (l.map fun x => [PV.lit (.int .u8 x)])
theorem permutation_fnO (raw : List Int) (hr : ∀ x ∈ raw, 0 ≤ x ∧ x ≤ 255) (hl : raw.length ≤ 1000) : FnO Tryz.prog 6 [.pv (bytes24 raw)] 3 1 ((permM raw raw.length).map nI) := by
  rw [show (permM raw raw.length).map nI = (permM raw raw.length).map encI from rfl]
  have ho := ord24_fnO raw.length hl
  refine FnO.enter (n := 40) Tryz.func6 rfl rfl rfl rfl rfl (by decide) fun g hro_ hwt_ => ?_; (try refine nz ?_)
  (refine Q335 ?_; refine zn ?_; (with_reducible apply AOps.calloD (ho)); exact lits_map (fun _ => ⟨_, rfl⟩) _; (repeat (first | exact .nil | (refine .cons rfl ?_ ?_; (first | exact .pv _ | exact .own _ _ _ _ rfl | exact .nil _ | exact .any _ | exact .rptr _ | (refine .aggL ?_; repeat (first | exact .nil | (refine .cons ?_ ?_; (first | exact .pv _ | exact .own _ _ _ _ rfl | exact .nil _)))))))); exact rfl; refine nz ?_; refine Q31 ?_; refine Q30 ?_; refine Q75 ?_)
  (refine nz ?_; apply AW.loopR [2, 0] [] (fun i : Nat => ([(4, litI i), (3, .own 0 3 1 ((permM raw i).map encI))] : List (Nat × AV))) (fun i : Nat => ([(0, some .row)] : List (Nat × Option Ob))) (fun i : Nat => i ≤ raw.length) (fun i : Nat => raw.length - i) (0); (conv => lhs; simp only [Nf.lpR, Nf.all, Nat.reduceBEq, reduceAdd, reduceSub]); (all_goals skip))
  · exact Nat.zero_le _
  · exact weak rfl (by (refine ⟨.intE (by first | with_reducible rfl | (first | rfl | (unfold permM; rfl))), ?_⟩; refine ⟨.ownE (by first | with_reducible rfl | (first | rfl | (unfold permM; rfl))) rfl, ?_⟩; refine ⟨.eq rfl rfl, ?_⟩; refine ⟨.pvE (by first | with_reducible rfl | (first | rfl | (unfold permM; rfl))), ?_⟩; exact trivial)) (by (refine ⟨.row rfl, ?_⟩; exact trivial)) rfl
  rintro i hi
  have hpn := perm_n raw i hi
  have hpl := hpn.len
  by_cases hlt : i < raw.length
  · have hk := raw_lt hlt
    rw [getD_of hlt] at hk
    have hb := hr _ (List.getElem_mem hlt)
    have k0 : 0 ≤ raw[i] % (raw.length : Int) := Int.emod_nonneg _ (by omega)
    have k1 : raw[i] % (raw.length : Int) < raw.length := Int.emod_lt_of_pos _ (by omega)
    have hsn := perm_snoc hlt
    (refine Q204 ?_; (focus ((with_reducible apply AOps.index_map); (iterate 7 exact rfl); rotate_left; omega)); refine zr ?_; refine Q323 ?_; refine Q51 ?_; refine Q319 ?_; refine Q235 ?_; (focus ((with_reducible apply AOps.load_o1_mapI); (iterate 4 exact rfl); exact (fun h_ => by cases h_); rotate_left; (first | omega | exact Nat.zero_lt_one | exact (by simp)))); refine Q51 ?_; (iterate 2 refine Q319 ?_); refine AOps.index_own_mapI rfl rfl rfl rfl rfl rfl rfl (by omega) (by omega) ?_; (focus ((with_reducible apply AOps.load_o1_mapI); (iterate 4 exact rfl); exact (fun h_ => by cases h_); rotate_left; (first | omega | exact Nat.zero_lt_one | exact (by simp)))); refine Q235 ?_; refine AOps.store_o1 rfl rfl rfl rfl rfl rfl rfl rfl ?_; refine zd ?_; refine Q85 ?_; (iterate 2 refine zm ?_); (with_reducible apply AOps.index_ownI); (iterate 7 exact rfl); omega; (first | omega | (simp only [List.length_map, List.length_append, List.length_cons, List.length_nil, List.length_drop, List.length_take, List.length_set, chunk_len]; omega)); refine AOps.store_o1 rfl rfl rfl rfl rfl rfl rfl rfl ?_; refine AOps.nil ?_; refine Q29 ?_)
    all_goals exact ⟨i + 1, by omega, by omega, weak rfl (by (refine ⟨.intE (by first | with_reducible rfl | (first | rfl | (rw [hsn, List.map_set, List.map_set]; rfl))), ?_⟩; refine ⟨.ownE (by first | with_reducible rfl | (first | rfl | (rw [hsn, List.map_set, List.map_set]; rfl))) rfl, ?_⟩; refine ⟨.eq rfl rfl, ?_⟩; refine ⟨.pvE (by first | with_reducible rfl | (first | rfl | (rw [hsn, List.map_set, List.map_set]; rfl))), ?_⟩; exact trivial)) (by (refine ⟨.row rfl, ?_⟩; exact trivial)) rfl⟩
  · obtain rfl : i = raw.length := by omega
    (refine Q10 ?_; refine Q44 ?_; refine Q96 ?_)
    ((first | (refine endsO_ret (Res.one (.tmp rfl rfl)) ?_) | (refine endsO_ret (Res.one (.cell1 rfl rfl rfl rfl)) ?_) | (refine endsO_nil (Res.one (.tmp rfl rfl)) ?_)); (rfl))
theorem cSame13_fn (a : List GateM) (ha : a.length ≤ 1000000) : Fn Tryz.prog 11 [crc a, crc a] (litB true) := by
  refine Fn.enter (n := 31) Tryz.func11 rfl rfl rfl rfl rfl (by decide) fun g hro_ hwt_ => ?_; (try refine nz ?_)
  (refine Q105 ?_; refine Q61 ?_; refine Q47 ?_; refine zn ?_; refine Q47 ?_; refine zn ?_; refine AOps.neq rfl rfl rfl rfl rfl ?_; refine Q234 ?_; refine Q75 ?_)
  (refine nz ?_; apply AW.loopR [3, 2] [1, 0] (fun i : Nat => ([(5, litI i)] : List (Nat × AV))) (fun i : Nat => ([] : List (Nat × Option Ob))) (fun i : Nat => i ≤ a.length) (fun i : Nat => a.length - i) (0); (conv => lhs; simp only [Nf.lpR, Nf.all, Nat.reduceBEq, reduceAdd, reduceSub]); (all_goals skip))
  · exact Nat.zero_le _
  · exact weak rfl (by (refine ⟨.eq rfl rfl, ?_⟩; (iterate 2 refine ⟨.eq rfl rfl, ?_⟩); exact trivial)) (by (refine ⟨.box _ rfl ?_, ?_⟩; refine ⟨.eq rfl rfl, ?_⟩; exact trivial; refine ⟨.box _ rfl ?_, ?_⟩; refine ⟨.eq rfl rfl, ?_⟩; (iterate 2 exact trivial))) rfl
  rintro i hi
  by_cases hlt : i < a.length
  · (refine Q98 ?_; refine Q47 ?_; refine Q86 ?_; refine Q287 ?_; refine zo ?_; (with_reducible apply AW.regionQ); exact rfl; exact rfl; kernel_rfl; (with_reducible assumption); refine Q47 ?_; refine zm ?_; (focus ((with_reducible apply AOps.index_map); (iterate 7 exact rfl); rotate_left; omega)); refine Q74 ?_; refine Q47 ?_; refine zm ?_; (focus ((with_reducible apply AOps.index_map); (iterate 7 exact rfl); rotate_left; omega)); refine Q74 ?_; refine AOps.neq3 rfl rfl (by kernel_rfl) rfl rfl rfl ?_; refine Q99 ?_)
    exact ⟨i + 1, by omega, by omega, weak rfl (by (refine ⟨.eq rfl rfl, ?_⟩; (iterate 2 refine ⟨.eq rfl rfl, ?_⟩); exact trivial)) (by (refine ⟨.box _ rfl ?_, ?_⟩; refine ⟨.eq rfl rfl, ?_⟩; exact trivial; refine ⟨.box _ rfl ?_, ?_⟩; refine ⟨.eq rfl rfl, ?_⟩; (iterate 2 exact trivial))) rfl⟩
  · (refine Q98 ?_; refine Q47 ?_; refine Q86 ?_; refine zd ?_; refine Q189 ?_)
    (apply ends_ret; (exact Res.one (.tmp rfl rfl)); (refine Le.litB ?_; (rfl)))
end Go.Ab
/- Chapter 24: the program's circuits, walked. -/
namespace Go.Ab
open Go Go.Proofs
open Nat (reduceAdd reduceSub)
set_option maxRecDepth 20000
set_option maxHeartbeats 4000000
attribute [local irreducible] AW AOps thenD inBlockD AR iterEnds roundEndsN inlEnds noGotoD findG
theorem gIndex_fn (gs : List GateM) (x : GateM) : Fn Tryz.prog 155 [.pv (gatesV gs), gtV x] (litI (findG gs x)) := by
  refine Fn.enter (n := 19) Tryz.func155 rfl rfl rfl rfl rfl (by decide) fun g hro_ hwt_ => ?_; (try refine nz ?_)
  refine AW.len_map 0 rfl fun hlen => ?_
  (refine Q64 ?_; refine Q214 ?_; refine zn ?_; refine Q226 ?_)
  (refine nz ?_; apply AW.loopR [7, 3, 0] [0] (fun k : Nat => ([(8, litI k)] : List (Nat × AV))) (fun k : Nat => ([] : List (Nat × Option Ob))) (fun k : Nat => k ≤ gs.length ∧ (gs.take k).any (fun h => decide (h = x)) = false) (fun k : Nat => gs.length - k) (0); (conv => lhs; simp only [Nf.lpR, Nf.all, Nat.reduceBEq, reduceAdd, reduceSub]); (all_goals skip))
  · exact ⟨Nat.zero_le _, rfl⟩
  · exact weak rfl (by (refine ⟨.eq rfl rfl, ?_⟩; (iterate 3 refine ⟨.eq rfl rfl, ?_⟩); exact trivial)) (by (refine ⟨.box _ rfl ?_, ?_⟩; (iterate 3 refine ⟨.eq rfl rfl, ?_⟩); (iterate 2 exact trivial))) rfl
  rintro k ⟨hk, hno⟩
  by_cases hlt : k < gs.length
  · have hs := gAny_snoc (g := x) hlt
    rw [hno, Bool.false_or] at hs
    by_cases he : gs[k] = x
    · have h1 := findG_yes hlt hno he
      have h2 := gate_eq.1 he.symm
      rw [h1]
      (refine Q181 ?_; refine zm ?_; refine Q5 ?_; refine zo ?_; (with_reducible apply AW.regionQ); exact rfl; exact rfl; kernel_rfl; (with_reducible assumption); refine Q80 ?_; (focus ((with_reducible apply AOps.index_map); (iterate 7 exact rfl); rotate_left; omega)); refine Q74 ?_; refine AOps.eql3 rfl rfl (by kernel_rfl) rfl rfl rfl ?_; refine Q334 ?_; refine Q200 ?_)
      (apply ends_ret; (exact Res.one (.tmp rfl rfl)); (refine Le.litI ?_; (rfl)))
    · rw [decide_eq_false he] at hs
      have h2 : ¬ (x.k = gs[k].k ∧ x.a = gs[k].a ∧ x.b = gs[k].b) := fun h => he (gate_eq.2 h).symm
      (refine Q181 ?_; refine zm ?_; refine Q5 ?_; refine zo ?_; (with_reducible apply AW.regionQ); exact rfl; exact rfl; kernel_rfl; (with_reducible assumption); refine Q80 ?_; (focus ((with_reducible apply AOps.index_map); (iterate 7 exact rfl); rotate_left; omega)); refine Q74 ?_; refine AOps.eql3 rfl rfl (by kernel_rfl) rfl rfl rfl ?_; refine zd ?_; refine zk ?_; refine AW.skip ?_; refine Q110 ?_)
      exact ⟨k + 1, ⟨by omega, hs⟩, by omega, weak rfl (by (refine ⟨.eq rfl rfl, ?_⟩; (iterate 3 refine ⟨.eq rfl rfl, ?_⟩); exact trivial)) (by (refine ⟨.box _ rfl ?_, ?_⟩; (iterate 3 refine ⟨.eq rfl rfl, ?_⟩); (iterate 2 exact trivial))) rfl⟩
  · rw [take_all (l := gs) (by omega)] at hno
    rw [findG_no hno]
    (refine Q52 ?_; refine Q189 ?_)
    (apply ends_ret; (exact Res.one (.tmp rfl rfl)); (refine Le.litI ?_; (rfl)))
theorem gClip_fn (gs : List GateM) (hne : 0 < gs.length) : Fn Tryz.prog 156 [.pv (gatesV gs)] (.pv (.clip 3 (gs.map encG))) := by
  refine Fn.enter (n := 9) Tryz.func156 rfl rfl rfl rfl rfl (by decide) fun g hro_ hwt_ => ?_; (try refine nz ?_)
  (refine Q177 ?_; (iterate 2 refine zm ?_); refine zn ?_; refine zm ?_; refine zn ?_; refine AOps.slice_clip rfl rfl rfl rfl rfl rfl rfl rfl rfl (by omega) ?_; refine Q42 ?_)
  (apply ends_ret; (exact Res.one (.tmp rfl rfl)); (exact Le.pv _))
theorem pShare_fn (gs : List GateM) (x : GateM) (hl : gs.length ≤ 1000000) (hne : 0 < gs.length) : Fn Tryz.prog 135 [crc gs, gtV x] (.tup [crc (shareG gs x).1, litI (shareG gs x).2]) := by
  have hf := gIndex_fn gs x
  have hcl := gClip_fn gs hne
  have hr := findG_range (gs := gs) (g := x)
  unfold shareG
  generalize findG gs x = i at hf hr ⊢
  refine Fn.enter (n := 32) Tryz.func135 rfl rfl rfl rfl rfl (by decide) fun g hro_ hwt_ => ?_; (try refine nz ?_)
  by_cases h0 : 0 ≤ i
  · rw [if_pos h0]
    (refine Q269 ?_; refine zm ?_; refine AOps.geq rfl rfl rfl rfl rfl ?_; refine Q83 ?_; refine Q202 ?_; refine AOps.mul rfl rfl rfl rfl rfl (by omega) ?_; refine Q62 ?_; refine Q57 ?_)
    (apply ends_ret; (exact Res.two (.cell rfl rfl rfl rfl) (.tmp rfl rfl)); (refine Le.tupL ?_; refine LeL.cons ?_ ?_; refine Le.aggL ?_; refine LeL.cons ?_ ?_; (with_reducible exact Le.pv _); exact LeL.nil; refine LeL.cons ?_ ?_; refine Le.litI ?_; (rfl); exact LeL.nil))
  · rw [if_neg h0]
    by_cases h1 : 20000 ≤ gs.length
    · rw [if_pos h1]
      (refine Q269 ?_; refine zm ?_; refine Q168 ?_; refine Q83 ?_; refine Q161 ?_)
      (apply ends_ret; (exact Res.two (.cell rfl rfl rfl rfl) (.tmp rfl rfl)); (refine Le.tupL ?_; refine LeL.cons ?_ ?_; refine Le.aggL ?_; refine LeL.cons ?_ ?_; (with_reducible exact Le.pv _); exact LeL.nil; refine LeL.cons ?_ ?_; refine Le.litI ?_; (rfl); exact LeL.nil))
    · rw [if_neg h1]
      (refine Q269 ?_; refine zm ?_; refine Q168 ?_; refine Q154 ?_; refine zo ?_; (with_reducible apply AW.keepR 6 14 [2,3,4]); exact rfl; refine Q223 ?_; refine AW.regionM [0, 1, 3] [11] rfl (by assumption) (by kernel_rfl) (by kernel_rfl) rfl ?_; show AOps .held _ _ _ [_, _, _] _ _; refine Q47 ?_; refine Q41 ?_; refine Q7 ?_; intro k_ hk_; refine AR.free 7 (by kernel_rfl) rfl rfl rfl (Frees.fieldAddr _ _ 0 rfl rfl rfl) ?_; (try refine nz ?_); apply AR.cut [7, 3, 1, 0, 2, 4, 5, 6, 8, 9, 10, 11]; intro hJ_0; apply AR.cut [7, 3, 1, 0, 2, 4, 5, 6, 8, 9, 11]; intro hJ_1; apply AR.cut [7, 3, 1, 0, 2, 4, 5, 6, 8, 9, 10]; intro hJ_2; apply AR.cut [7, 3, 1, 0, 2, 4, 5, 6, 8, 9]; intro hJ_3; apply AR.cut [7, 3, 1, 0, 2, 4, 5, 6, 8, 11]; intro hJ_4; apply AR.cut [7, 3, 1, 0, 2, 4, 5, 6, 8]; intro hJ_5; apply AR.cut [7, 3, 1, 0, 2, 4, 8, 9, 10]; intro hJ_6; apply AR.cut [7, 3, 1, 0, 2, 8, 9, 10]; intro hJ_7; apply AR.cut [7, 3, 1, 0, 4, 8, 9, 10]; intro hJ_8; apply AR.cut [7, 3, 1, 0, 2, 4, 8, 9]; intro hJ_9; apply AR.cut [7, 3, 1, 0, 2, 4, 8]; intro hJ_10; apply AR.cut [7, 3, 1, 0, 2, 8, 9]; intro hJ_11; apply AR.cut [7, 3, 1, 0, 4, 8, 9]; intro hJ_12; apply AR.cut [7, 3, 1, 0, 2, 8]; intro hJ_13; apply AR.cut [7, 3, 1, 0, 4, 8]; intro hJ_14; apply AR.cut [7, 3, 1, 0, 2, 4]; intro hJ_15; (refine AR.step3M (i := 2) (j := 4) (m := 8) rfl (by kernel_rfl) rfl rfl rfl ?_ ?_ ?_ <;> intro g_ hgro_ hw_); refine zP (hcl) ?_; refine Q7 ?_; (refine AR.step2M (i := 4) (j := 8) rfl (by kernel_rfl) rfl rfl ?_ ?_ <;> intro g_ hgro_ hw_); refine Q95 ?_; refine Q1 ?_; exact AR.perm (by kernel_rfl) hJ_15; refine zb ?_; refine Q1 ?_; exact AR.perm (by kernel_rfl) hJ_13; refine Q95 ?_; refine Q7 ?_; (refine AR.step2M (i := 2) (j := 8) rfl (by kernel_rfl) rfl rfl ?_ ?_ <;> intro g_ hgro_ hw_); refine zP (hcl) ?_; refine Q40 ?_; refine AR.meet hJ_15 (by kernel_rfl) (fun g_ => weak rfl ?_ ?_ rfl); (iterate 9 refine ⟨.eq rfl rfl, ?_⟩); exact trivial; exact Q145; refine zb ?_; refine Q1 ?_; exact AR.perm (by kernel_rfl) hJ_14; refine zb ?_; refine Q7 ?_; (refine AR.step3M (i := 2) (j := 4) (m := 9) rfl (by kernel_rfl) rfl rfl rfl ?_ ?_ ?_ <;> intro g_ hgro_ hw_); refine zP (hcl) ?_; refine Q40 ?_; refine AR.meet hJ_13 (by kernel_rfl) (fun g_ => weak rfl ?_ ?_ rfl); (iterate 9 refine ⟨.eq rfl rfl, ?_⟩); exact trivial; refine Q16 ?_; refine Q34 ?_; exact Q8; refine Q95 ?_; refine Q40 ?_; refine AR.meet hJ_14 (by kernel_rfl) (fun g_ => weak rfl ?_ ?_ rfl); (iterate 9 refine ⟨.eq rfl rfl, ?_⟩); exact trivial; exact Q145; refine zn ?_; refine Q7 ?_; (refine AR.step3M (i := 2) (j := 4) (m := 10) rfl (by kernel_rfl) rfl rfl rfl ?_ ?_ ?_ <;> intro g_ hgro_ hw_); refine zP (hcl) ?_; refine Q1 ?_; exact AR.perm (by kernel_rfl) hJ_11; refine Q95 ?_; refine Q1 ?_; exact AR.perm (by kernel_rfl) hJ_12; refine AOps.mul rfl rfl rfl rfl rfl (by omega) ?_; refine Q7 ?_; (refine AR.step2M (i := 2) (j := 4) rfl (by kernel_rfl) rfl rfl ?_ ?_ <;> intro g_ hgro_ hw_); refine zP (hcl) ?_; refine Q1 ?_; exact AR.perm (by kernel_rfl) hJ_7; refine Q95 ?_; refine Q1 ?_; exact AR.perm (by kernel_rfl) hJ_8; (refine AR.step2M (i := 5) (j := 8) rfl (by kernel_rfl) rfl rfl ?_ ?_ <;> intro g_ hgro_ hw_); (with_reducible apply AOps.append_clip); exact rfl; (first | exact .pv rfl | exact .own rfl | exact .nil rfl); (iterate 8 exact rfl); (first | omega | (simp only [List.length_map, List.length_append, List.length_cons, List.length_nil, List.length_drop, List.length_take, List.length_set, chunk_len]; omega)); (first | omega | (simp only [List.length_map, List.length_append, List.length_cons, List.length_nil, List.length_drop, List.length_take, List.length_set, chunk_len]; omega)); (first | omega | (simp only [List.length_map, List.length_append, List.length_cons, List.length_nil, List.length_drop, List.length_take, List.length_set, chunk_len]; omega)); refine Q160 ?_; (refine AR.step2L (i := 8) (j := 11) rfl (by kernel_rfl) rfl rfl (by kernel_rfl) ?_ ?_ <;> intro g_ hgro_ hwt2_); refine zb ?_; refine Q1 ?_; exact AR.perm (by kernel_rfl) hJ_5; refine Q292 ?_; refine Q123 ?_; intro g_ hgro_ hwt2_; refine zb ?_; refine Q1 ?_; exact AR.perm (by kernel_rfl) hJ_4; refine zb ?_; refine Q1 ?_; exact AR.perm (by kernel_rfl) hJ_10; (refine AR.step2M (i := 2) (j := 9) rfl (by kernel_rfl) rfl rfl ?_ ?_ <;> intro g_ hgro_ hw_); refine zP (hcl) ?_; refine Q40 ?_; refine AR.meet hJ_10 (by kernel_rfl) (fun g_ => weak rfl ?_ ?_ rfl); (iterate 10 refine ⟨.eq rfl rfl, ?_⟩); exact trivial; exact Q145; refine zn ?_; refine Q40 ?_; refine AR.meet hJ_12 (by kernel_rfl) (fun g_ => weak rfl ?_ ?_ rfl); (iterate 10 refine ⟨.eq rfl rfl, ?_⟩); exact trivial; exact Q145; (refine AR.step2M (i := 4) (j := 9) rfl (by kernel_rfl) rfl rfl ?_ ?_ <;> intro g_ hgro_ hw_); refine Q95 ?_; refine Q40 ?_; refine AR.meet hJ_10 (by kernel_rfl) (fun g_ => weak rfl ?_ ?_ rfl); (iterate 10 refine ⟨.eq rfl rfl, ?_⟩); exact trivial; exact Q145; refine zn ?_; refine Q40 ?_; refine AR.meet hJ_11 (by kernel_rfl) (fun g_ => weak rfl ?_ ?_ rfl); (iterate 10 refine ⟨.eq rfl rfl, ?_⟩); exact trivial; refine Q16 ?_; refine Q34 ?_; exact Q8; (refine AR.step2M (i := 2) (j := 10) rfl (by kernel_rfl) rfl rfl ?_ ?_ <;> intro g_ hgro_ hw_); refine zP (hcl) ?_; refine Q1 ?_; exact AR.perm (by kernel_rfl) hJ_9; refine Q257 ?_; refine AR.meet hJ_8 (by kernel_rfl) (fun g_ => weak rfl ?_ ?_ rfl); exact Q254; exact Q145; (refine AR.step2M (i := 4) (j := 10) rfl (by kernel_rfl) rfl rfl ?_ ?_ <;> intro g_ hgro_ hw_); refine Q95 ?_; refine Q40 ?_; refine AR.meet hJ_9 (by kernel_rfl) (fun g_ => weak rfl ?_ ?_ rfl); exact Q254; exact Q145; refine Q257 ?_; refine AR.meet hJ_7 (by kernel_rfl) (fun g_ => weak rfl ?_ ?_ rfl); exact Q254; refine Q16 ?_; refine Q34 ?_; exact Q8; (refine AR.step2M (i := 5) (j := 9) rfl (by kernel_rfl) rfl rfl ?_ ?_ <;> intro g_ hgro_ hw_); (with_reducible apply AOps.append_clip); exact rfl; (first | exact .pv rfl | exact .own rfl | exact .nil rfl); (iterate 8 exact rfl); (first | omega | (simp only [List.length_map, List.length_append, List.length_cons, List.length_nil, List.length_drop, List.length_take, List.length_set, chunk_len]; omega)); (first | omega | (simp only [List.length_map, List.length_append, List.length_cons, List.length_nil, List.length_drop, List.length_take, List.length_set, chunk_len]; omega)); (first | omega | (simp only [List.length_map, List.length_append, List.length_cons, List.length_nil, List.length_drop, List.length_take, List.length_set, chunk_len]; omega)); refine Q160 ?_; (try refine nz ?_); refine AR.meet hJ_5 (by kernel_rfl) (fun g_ => weak rfl ?_ ?_ rfl); (iterate 12 refine ⟨.eq rfl rfl, ?_⟩); exact trivial; (iterate 2 refine ⟨.row rfl, ?_⟩); refine Q16 ?_; refine Q34 ?_; exact Q8; refine zn ?_; refine Q40 ?_; refine AR.meet hJ_9 (by kernel_rfl) (fun g_ => weak rfl ?_ ?_ rfl); exact Q254; exact Q145; (refine AR.step2M (i := 5) (j := 10) rfl (by kernel_rfl) rfl rfl ?_ ?_ <;> intro g_ hgro_ hw_); (with_reducible apply AOps.append_clip); exact rfl; (first | exact .pv rfl | exact .own rfl | exact .nil rfl); (iterate 8 exact rfl); (first | omega | (simp only [List.length_map, List.length_append, List.length_cons, List.length_nil, List.length_drop, List.length_take, List.length_set, chunk_len]; omega)); (first | omega | (simp only [List.length_map, List.length_append, List.length_cons, List.length_nil, List.length_drop, List.length_take, List.length_set, chunk_len]; omega)); (first | omega | (simp only [List.length_map, List.length_append, List.length_cons, List.length_nil, List.length_drop, List.length_take, List.length_set, chunk_len]; omega)); refine Q160 ?_; (try refine nz ?_); refine AR.dd ?_; (conv => rhs; simp only [Nf.ddR, Nf.all, Nat.reduceBEq, reduceAdd, reduceSub]); exact AR.perm (by kernel_rfl) hJ_3; refine AOps.mul rfl rfl rfl rfl rfl (by omega) ?_; refine Q1 ?_; exact AR.perm (by kernel_rfl) hJ_6; refine AR.step1M (i := 2) rfl (by kernel_rfl) rfl ?_; intro g_ hgro_ hw_; refine zP (hcl) ?_; refine Q219 ?_; exact Q145; refine AR.step1M (i := 4) rfl (by kernel_rfl) rfl ?_; intro g_ hgro_ hw_; refine Q95 ?_; refine Q219 ?_; exact Q145; refine AR.step1M (i := 5) rfl (by kernel_rfl) rfl ?_; intro g_ hgro_ hw_; (with_reducible apply AOps.append_clip); exact rfl; (first | exact .pv rfl | exact .own rfl | exact .nil rfl); (iterate 8 exact rfl); (first | omega | (simp only [List.length_map, List.length_append, List.length_cons, List.length_nil, List.length_drop, List.length_take, List.length_set, chunk_len]; omega)); (first | omega | (simp only [List.length_map, List.length_append, List.length_cons, List.length_nil, List.length_drop, List.length_take, List.length_set, chunk_len]; omega)); (first | omega | (simp only [List.length_map, List.length_append, List.length_cons, List.length_nil, List.length_drop, List.length_take, List.length_set, chunk_len]; omega)); refine Q160 ?_; (try refine nz ?_); refine AR.dd ?_; (conv => rhs; simp only [Nf.ddR, Nf.all, Nat.reduceBEq, reduceAdd, reduceSub]); exact AR.perm (by kernel_rfl) hJ_2; (refine AR.step2L (i := 9) (j := 11) rfl (by kernel_rfl) rfl rfl (by kernel_rfl) ?_ ?_ <;> intro g_ hgro_ hwt2_); refine zn ?_; refine Q40 ?_; refine AR.meet hJ_3 (by kernel_rfl) (fun g_ => weak rfl ?_ ?_ rfl); (iterate 13 refine ⟨.eq rfl rfl, ?_⟩); exact trivial; (iterate 2 refine ⟨.row rfl, ?_⟩); refine Q16 ?_; refine Q34 ?_; exact Q8; refine Q62 ?_; refine Q40 ?_; refine AR.meet hJ_4 (by kernel_rfl) (fun g_ => weak rfl ?_ ?_ rfl); (iterate 12 refine ⟨.eq rfl rfl, ?_⟩); exact trivial; exact Q180; refine Q102 ?_; intro g_ hgro_ hwt2_; refine zn ?_; refine Q1 ?_; exact AR.perm (by kernel_rfl) hJ_1; (refine AR.step2L (i := 10) (j := 11) rfl (by kernel_rfl) rfl rfl (by kernel_rfl) ?_ ?_ <;> intro g_ hgro_ hwt2_); refine Q257 ?_; refine AR.meet hJ_2 (by kernel_rfl) (fun g_ => weak rfl ?_ ?_ rfl); exact Q208; (iterate 2 refine ⟨.row rfl, ?_⟩); refine Q16 ?_; refine Q34 ?_; exact Q8; refine Q62 ?_; refine Q40 ?_; refine AR.meet hJ_1 (by kernel_rfl) (fun g_ => weak rfl ?_ ?_ rfl); (iterate 13 refine ⟨.eq rfl rfl, ?_⟩); exact trivial; exact Q180; refine Q171 ?_; intro g_ hgro_ hwt2_; refine Q62 ?_; refine Q1 ?_; exact AR.perm (by kernel_rfl) hJ_0; refine Q60 ?_; intro g_ hgro_ hwt2_; refine Q257 ?_; refine AR.meet hJ_0 (by kernel_rfl) (fun g_ => weak rfl ?_ ?_ rfl); exact Q208; exact Q180; refine Q231 ?_; intro g_ hgro_ hwt2_; refine Q133 ?_; refine AW.ret ?_)
      (apply ends_ret; (exact Res.two (.cell rfl rfl rfl rfl) (.tmp rfl rfl)); (refine Le.tupL ?_; refine LeL.cons ?_ ?_; refine Le.aggL ?_; refine LeL.cons ?_ ?_; refine Le.ownE ?_; (first | rfl | (rw [List.map_append]; rfl)); exact LeL.nil; refine LeL.cons ?_ ?_; refine Le.litI ?_; (first | rfl | (rw [List.map_append]; rfl)); exact LeL.nil))
end Go.Ab
/- Chapter 24: the program's circuits: negation, inputs, conjunctions, walked. -/
namespace Go.Ab
open Go Go.Proofs
set_option maxRecDepth 20000
set_option maxHeartbeats 4000000
attribute [local irreducible] AW AOps thenD inBlockD AR iterEnds roundEndsN inlEnds noGotoD findG EndsX
theorem pNot_fn (r : Int) (h : -1000000 ≤ r ∧ r ≤ 1000000) : Fn Tryz.prog 79 [litI r] (litI (notR r)) := by
  unfold notR
  by_cases h0 : r < 0
  · rw [if_pos h0]
    refine Fn.enter (n := 7) Tryz.func79 rfl rfl rfl rfl rfl (by decide) fun g hro_ hwt_ => ?_; (try refine nz ?_)
    (refine zq ?_; refine Q214 ?_; refine zs ?_; refine Q83 ?_; refine Q57 ?_)
    (apply ends_ret; (exact Res.one (.tmp rfl rfl)); (refine Le.litI ?_; (rfl)))
  · rw [if_neg h0]
    show Fn Tryz.prog 79 [litI r] (litI (bit1 r))
    refine Fn.enter (n := 7) Tryz.func79 rfl rfl rfl rfl rfl (by decide) fun g hro_ hwt_ => ?_; (try refine nz ?_)
    (refine zq ?_; refine Q214 ?_; refine zs ?_; refine Q184 ?_; refine zm ?_; refine AOps.xor1 rfl rfl rfl rfl rfl (by omega) ?_; refine Q42 ?_)
    (apply ends_ret; (exact Res.one (.tmp rfl rfl)); (refine Le.litI ?_; (rfl)))
theorem pInput_fn (gs : List GateM) (v : Int) (hl : gs.length ≤ 1000000) (hne : 0 < gs.length) : Fn Tryz.prog 114 [crc gs, litI v] (.tup [crc (inputG gs v).1, litI (inputG gs v).2]) := by
  have hs := pShare_fn gs ⟨1, v, 0⟩ hl hne
  unfold inputG
  refine Fn.enter (n := 19) Tryz.func114 rfl rfl rfl rfl rfl (by decide) fun g hro_ hwt_ => ?_; (try refine nz ?_)
  by_cases h0 : v < 1 ∨ 20000 < v
  · rw [if_pos h0]
    (refine Q64 ?_; refine Q9 ?_; refine Q214 ?_; refine zs ?_; refine zm ?_; (focus ((with_reducible apply AOps.guardF); (iterate 6 exact rfl); all_goals intro hc_)); refine zm ?_; refine Q36 ?_; refine Q83 ?_; refine Q161 ?_; (all_goals skip); rotate_left; refine Q224 ?_; refine Q216 ?_; refine Q161 ?_; (all_goals skip); rotate_left)
    all_goals (apply ends_ret; (exact Res.two (.cell rfl rfl rfl rfl) (.tmp rfl rfl)); (refine Le.tupL ?_; refine LeL.cons ?_ ?_; refine Le.aggL ?_; refine LeL.cons ?_ ?_; (with_reducible exact Le.pv _); exact LeL.nil; refine LeL.cons ?_ ?_; refine Le.litI ?_; (rfl); exact LeL.nil))
  · rw [if_neg h0]
    have h1 : ¬ v < 1 := by omega
    have h2 : ¬ 20000 < v := by omega
    (refine Q247 ?_; refine nz ?_; refine zP (hs) ?_; refine Q172 ?_)
    (apply ends_ret; (exact Res.two (.cell rfl rfl rfl rfl) (.tmp rfl rfl)); (refine Le.tupL ?_; refine LeL.cons ?_ ?_; refine Le.aggL ?_; refine LeL.cons ?_ ?_; (with_reducible exact Le.pv _); exact LeL.nil; refine LeL.cons ?_ ?_; refine Le.litI ?_; (rfl); exact LeL.nil))
theorem andV_fn (gs : List GateM) (r : Int) (hl : gs.length ≤ 1000000) : Fn Tryz.prog 134 [litI r, .rptr [.slice 3 (gs.map encG)]] (litB (decide (0 ≤ r ∧ r < 2 * (gs.length : Int)))) := by
  by_cases h : 0 ≤ r ∧ r < 2 * (gs.length : Int)
  · rw [decide_eq_true h]
    obtain ⟨h1, h2⟩ := h
    have e2 := decide_eq_true h2
    refine Fn.enter (n := 14) Tryz.func134 rfl rfl rfl rfl rfl (by decide) fun g hro_ hwt_ => ?_; (try refine nz ?_)
    (refine Q335 ?_; refine Q328 ?_)
    (apply ends_ret; (exact Res.one (.tmp rfl rfl)); (refine Le.litB ?_; (first | rfl | (rw [e2]))))
  · rw [decide_eq_false h]
    refine Fn.enter (n := 14) Tryz.func134 rfl rfl rfl rfl rfl (by decide) fun g hro_ hwt_ => ?_; (try refine nz ?_)
    by_cases h1 : 0 ≤ r
    · have h2 : ¬ r < 2 * (gs.length : Int) := fun h2 => h ⟨h1, h2⟩
      have e2 := decide_eq_false h2
      (refine Q335 ?_; refine Q328 ?_)
      (apply ends_ret; (exact Res.one (.tmp rfl rfl)); (refine Le.litB ?_; (first | rfl | (rw [e2]))))
    · have e1 := decide_eq_false h1
      (refine Q335 ?_; refine AOps.geq rfl rfl rfl rfl rfl ?_; refine zm ?_; refine Q272 ?_; refine Q42 ?_)
      (apply ends_ret; (exact Res.one (.tmp rfl rfl)); (refine Le.litB ?_; (first | rfl | (rw [e1]))))
theorem notR_inv {a b : Int} (ha : 0 ≤ a) (hb : 0 ≤ b) : b = notR a ↔ a = notR b := by
  have e1 : notR a = if a % 2 = 0 then a + 1 else a - 1 := if_neg (by omega)
  have e2 : notR b = if b % 2 = 0 then b + 1 else b - 1 := if_neg (by omega)
  rw [e1, e2]
  by_cases p : a % 2 = 0
  · rw [if_pos p]
    by_cases q : b % 2 = 0
    · rw [if_pos q]; omega
    · rw [if_neg q]; omega
  · rw [if_neg p]
    by_cases q : b % 2 = 0
    · rw [if_pos q]; omega
    · rw [if_neg q]; omega
theorem pAnd_fn (gs : List GateM) (a b : Int) (hl : gs.length ≤ 400000) (hne : 0 < gs.length) (ha : -1000000 ≤ a ∧ a ≤ 1000000) (hb : -1000000 ≤ b ∧ b ≤ 1000000) : Fn Tryz.prog 90 [crc gs, litI a, litI b] (.tup [crc (andG gs a b).1, litI (andG gs a b).2]) := by
  have hs := pShare_fn gs ⟨2, min a b, max a b⟩ (by omega) hne
  have hn := pNot_fn b hb
  have hva := andV_fn gs a (by omega)
  have hvb := andV_fn gs b (by omega)
  unfold andG
  by_cases h0 : a < 0 ∨ b < 0 ∨ 2 * (gs.length : Int) ≤ a ∨ 2 * (gs.length : Int) ≤ b
  · rw [if_pos h0]
    by_cases hx : 0 ≤ a ∧ a < 2 * (gs.length : Int)
    · have hy : ¬ (0 ≤ b ∧ b < 2 * (gs.length : Int)) := by omega
      rw [decide_eq_true hx] at hva
      rw [decide_eq_false hy] at hvb
      refine Fn.enter (n := 62) Tryz.func90 rfl rfl rfl rfl rfl (by decide) fun g hro_ hwt_ => ?_; (try refine nz ?_)
      (refine Q310 ?_; refine zl ?_; refine AOps.move_clo rfl rfl rfl ?_; refine Q92 ?_; refine zC (hvb) ?_; refine Q322 ?_; refine Q5 ?_; refine Q76 ?_; refine Q41 ?_; refine Q138 ?_)
      (apply ends_ret; (exact Res.two (.cell rfl rfl rfl rfl) (.tmp rfl rfl)); (refine Le.tupL ?_; refine LeL.cons ?_ ?_; refine Le.aggL ?_; refine LeL.cons ?_ ?_; (with_reducible exact Le.pv _); exact LeL.nil; refine LeL.cons ?_ ?_; refine Le.litI ?_; (rfl); exact LeL.nil))
    · rw [decide_eq_false hx] at hva
      refine Fn.enter (n := 62) Tryz.func90 rfl rfl rfl rfl rfl (by decide) fun g hro_ hwt_ => ?_; (try refine nz ?_)
      (refine Q310 ?_; refine Q125 ?_; refine Q5 ?_; refine Q76 ?_; refine Q41 ?_; refine Q138 ?_)
      (apply ends_ret; (exact Res.two (.cell rfl rfl rfl rfl) (.tmp rfl rfl)); (refine Le.tupL ?_; refine LeL.cons ?_ ?_; refine Le.aggL ?_; refine LeL.cons ?_ ?_; (with_reducible exact Le.pv _); exact LeL.nil; refine LeL.cons ?_ ?_; refine Le.litI ?_; (rfl); exact LeL.nil))
  · rw [if_neg h0]
    have hx : 0 ≤ a ∧ a < 2 * (gs.length : Int) := by omega
    have hy : 0 ≤ b ∧ b < 2 * (gs.length : Int) := by omega
    rw [decide_eq_true hx] at hva
    rw [decide_eq_true hy] at hvb
    have hinv := notR_inv (a := a) (b := b) (by omega) (by omega)
    generalize notR b = nb at hn hinv ⊢
    by_cases h5 : a = 1 ∨ b = 1 ∨ b = notR a
    · rw [if_pos h5]
      have h5' : a = 1 ∨ b = 1 ∨ a = nb := h5.imp id (fun h => h.imp id hinv.1)
      refine Fn.enter (n := 62) Tryz.func90 rfl rfl rfl rfl rfl (by decide) fun g hro_ hwt_ => ?_; (try refine nz ?_)
      by_cases j1 : a = 1
      · (refine Q20 ?_; refine zm ?_; refine Q129 ?_; refine zm ?_; refine Q125 ?_; refine Q5 ?_; refine Q76 ?_; refine Q41 ?_; refine Q138 ?_)
        (apply ends_ret; (exact Res.two (.cell rfl rfl rfl rfl) (.tmp rfl rfl)); (refine Le.tupL ?_; refine LeL.cons ?_ ?_; refine Le.aggL ?_; refine LeL.cons ?_ ?_; (with_reducible exact Le.pv _); exact LeL.nil; refine LeL.cons ?_ ?_; refine Le.litI ?_; (rfl); exact LeL.nil))
      · by_cases j2 : b = 1
        · (refine Q20 ?_; refine Q13 ?_; refine Q230 ?_; refine zm ?_; (iterate 4 refine AOps.guardFn rfl rfl rfl rfl rfl rfl (by with_reducible assumption) ?_); refine zT ?_; refine Q5 ?_; refine Q76 ?_; refine Q41 ?_; refine Q138 ?_)
          (apply ends_ret; (exact Res.two (.cell rfl rfl rfl rfl) (.tmp rfl rfl)); (refine Le.tupL ?_; refine LeL.cons ?_ ?_; refine Le.aggL ?_; refine LeL.cons ?_ ?_; (with_reducible exact Le.pv _); exact LeL.nil; refine LeL.cons ?_ ?_; refine Le.litI ?_; (rfl); exact LeL.nil))
        · have j3 : a = nb := by omega
          (refine Q20 ?_; refine Q53 ?_; refine Q5 ?_; refine zc ?_; refine Q4 ?_; refine Q41 ?_; refine Q138 ?_)
          (apply ends_ret; (exact Res.two (.cell rfl rfl rfl rfl) (.tmp rfl rfl)); (refine Le.tupL ?_; refine LeL.cons ?_ ?_; refine Le.aggL ?_; refine LeL.cons ?_ ?_; (with_reducible exact Le.pv _); exact LeL.nil; refine LeL.cons ?_ ?_; refine Le.litI ?_; (rfl); exact LeL.nil))
    · rw [if_neg h5]
      have k1 : ¬ a = 1 := fun h => h5 (.inl h)
      have k2 : ¬ b = 1 := fun h => h5 (.inr (.inl h))
      have k3 : ¬ a = nb := fun h => h5 (.inr (.inr (hinv.2 h)))
      refine Fn.enter (n := 62) Tryz.func90 rfl rfl rfl rfl rfl (by decide) fun g hro_ hwt_ => ?_; (try refine nz ?_)
      by_cases h6 : a = 0
      · rw [if_pos h6]
        (refine Q20 ?_; refine Q53 ?_; refine Q5 ?_; refine zk ?_; refine Q4 ?_; refine Q84 ?_; refine Q5 ?_; refine zc ?_; refine Q4 ?_; refine Q202 ?_; refine Q138 ?_)
        (apply ends_ret; (exact Res.two (.cell rfl rfl rfl rfl) (.tmp rfl rfl)); (refine Le.tupL ?_; refine LeL.cons ?_ ?_; refine Le.aggL ?_; refine LeL.cons ?_ ?_; (with_reducible exact Le.pv _); exact LeL.nil; refine LeL.cons ?_ ?_; refine Le.litI ?_; (rfl); exact LeL.nil))
      · rw [if_neg h6]
        by_cases h7 : b = 0 ∨ a = b
        · rw [if_pos h7]
          by_cases j1 : b = 0
          · (refine Q207 ?_; refine zm ?_; refine Q198 ?_; refine Q5 ?_; refine Q76 ?_; refine Q202 ?_; refine Q138 ?_)
            (apply ends_ret; (exact Res.two (.cell rfl rfl rfl rfl) (.tmp rfl rfl)); (refine Le.tupL ?_; refine LeL.cons ?_ ?_; refine Le.aggL ?_; refine LeL.cons ?_ ?_; (with_reducible exact Le.pv _); exact LeL.nil; refine LeL.cons ?_ ?_; refine Le.litI ?_; (rfl); exact LeL.nil))
          · have j2 : a = b := by omega
            (refine Q207 ?_; refine Q13 ?_; refine Q131 ?_; refine Q230 ?_; refine Q5 ?_; refine zc ?_; refine Q4 ?_; refine Q202 ?_; refine Q138 ?_)
            (apply ends_ret; (exact Res.two (.cell rfl rfl rfl rfl) (.tmp rfl rfl)); (refine Le.tupL ?_; refine LeL.cons ?_ ?_; refine Le.aggL ?_; refine LeL.cons ?_ ?_; (with_reducible exact Le.pv _); exact LeL.nil; refine LeL.cons ?_ ?_; refine Le.litI ?_; (rfl); exact LeL.nil))
        · rw [if_neg h7]
          have m1 : ¬ b = 0 := by omega
          have m2 : ¬ a = b := by omega
          (refine Q207 ?_; refine Q13 ?_; refine Q131 ?_; refine Q230 ?_; refine Q5 ?_; refine zk ?_; refine AW.skip ?_; refine inBlockD_n ?_; refine Q157 ?_; refine Q302 ?_; refine nz ?_; refine zP (hs) ?_; refine Q172 ?_)
          (apply ends_ret; (exact Res.two (.cell rfl rfl rfl rfl) (.tmp rfl rfl)); (refine Le.tupL ?_; refine LeL.cons ?_ ?_; refine Le.aggL ?_; refine LeL.cons ?_ ?_; (with_reducible exact Le.pv _); exact LeL.nil; refine LeL.cons ?_ ?_; refine Le.litI ?_; (rfl); exact LeL.nil))
end Go.Ab
/- Chapter 24: the builder of predicates: its methods; the inverse of a permutation, walked. -/
namespace Go.Ab
open Go Go.Proofs
open Nat (reduceAdd reduceSub)
set_option maxRecDepth 20000
set_option maxHeartbeats 4000000
def invTo (perm : List Int) (k : Nat) : List Int := (List.range perm.length).map fun j : Nat => if perm.findIdx (fun x => decide (x = (j : Int) + 1)) < k then backM perm ((j : Int) + 1) else 0
theorem invTo_len (perm : List Int) (k : Nat) : (invTo perm k).length = perm.length := by simp [invTo]
theorem invTo_zero (perm : List Int) : invTo perm 0 = List.replicate perm.length 0 := by
  rw [List.eq_replicate_iff]
  refine ⟨invTo_len perm 0, fun x hx => ?_⟩
  obtain ⟨j, _, rfl⟩ := List.mem_map.1 hx
  rw [if_neg (by omega)]
theorem invTo_all {perm : List Int} (h : PermOk perm) : invTo perm perm.length = invM perm := by
  unfold invTo invM
  refine List.map_congr_left fun j hj => ?_
  have hj := List.mem_range.1 hj
  obtain ⟨i, hi, h1, _⟩ := h.at (w := (j : Int) + 1) (by omega)
  rw [if_pos (by omega)]
theorem invTo_set {perm : List Int} (h : PermOk perm) {k : Nat} (hk : k < perm.length) : (invTo perm k).set (perm[k] - 1).toNat ((k : Int) + 1) = invTo perm (k + 1) := by
  have hr := h.rng _ (List.getElem_mem hk)
  refine List.ext_getElem (by simp [invTo]) fun j h1 h2 => ?_
  have hj : j < perm.length := by simpa [invTo] using h2
  obtain ⟨i, hi, i1, i2⟩ := h.at (w := (j : Int) + 1) (by omega)
  rw [List.getElem_set]
  simp only [invTo, List.getElem_map, List.getElem_range, i1]
  by_cases e : (perm[k] - 1).toNat = j
  · rw [if_pos e]
    have e2 : perm[i] = perm[k] := by rw [i2]; omega
    have := (List.getElem_inj h.nodup).1 e2
    subst this
    rw [if_pos (by omega)]
    unfold backM
    rw [i1]
  · rw [if_neg e]
    have : i ≠ k := by rintro rfl; omega
    by_cases hik : i < k
    · rw [if_pos hik, if_pos (by omega)]
    · rw [if_neg hik, if_neg (by omega)]
theorem setI1 (l : List Int) (i : Nat) (x : Int) : (l.map encI).set i [PV.lit (.int .i64 x)] = (l.set i x).map encI := by
  rw [List.map_set]; rfl
attribute [local irreducible] AW AOps thenD inBlockD AR iterEnds roundEndsN inlEnds noGotoD findG EndsX invTo invM
theorem inverse_fn (perm : List Int) (h : PermOk perm) (hl : perm.length ≤ 100000) : Fn Tryz.prog 38 [.pv (ints perm)] (.pv (ints (invM perm))) := by
  refine Fn.enter (n := 24) Tryz.func38 rfl rfl rfl rfl rfl (by decide) fun g hro_ hwt_ => ?_; (try refine nz ?_)
  (refine Q335 ?_; refine zn ?_; refine AOps.makeSlice1 rfl rfl rfl rfl rfl rfl rfl rfl rfl rfl (by omega) ?_; refine nz ?_; refine Q31 ?_; refine Q30 ?_; refine zm ?_; refine zn ?_; refine Q226 ?_)
  (refine nz ?_; apply AW.loopR [10, 9, 2] [] (fun k : Nat => ([(11, litI k), (3, .own 0 3 1 ((invTo perm k).map encI))] : List (Nat × AV))) (fun k : Nat => ([(0, some .row)] : List (Nat × Option Ob))) (fun k : Nat => k ≤ perm.length) (fun k : Nat => perm.length - k) (0); (conv => lhs; simp only [Nf.lpR, Nf.all, Nat.reduceBEq, reduceAdd, reduceSub]); (all_goals skip))
  · exact Nat.zero_le _
  · exact weak rfl (by (refine ⟨.intE (by first | with_reducible rfl | (first | rfl | (rw [invTo_zero, List.map_replicate]; rfl) | (show List.replicate _ _ = List.map encI _; rw [invTo_zero, List.map_replicate, Int.toNat_natCast]; rfl))), ?_⟩; refine ⟨.ownE (by first | with_reducible rfl | (first | rfl | (rw [invTo_zero, List.map_replicate]; rfl) | (show List.replicate _ _ = List.map encI _; rw [invTo_zero, List.map_replicate, Int.toNat_natCast]; rfl))) rfl, ?_⟩; refine ⟨.intE (by first | with_reducible rfl | (first | rfl | (rw [invTo_zero, List.map_replicate]; rfl) | (show List.replicate _ _ = List.map encI _; rw [invTo_zero, List.map_replicate, Int.toNat_natCast]; rfl))), ?_⟩; refine ⟨.pvE (by first | with_reducible rfl | (first | rfl | (rw [invTo_zero, List.map_replicate]; rfl) | (show List.replicate _ _ = List.map encI _; rw [invTo_zero, List.map_replicate, Int.toNat_natCast]; rfl))), ?_⟩; refine ⟨.eq rfl rfl, ?_⟩; exact trivial)) (by (refine ⟨.row rfl, ?_⟩; exact trivial)) rfl
  rintro k hk
  have hil := invTo_len perm k
  by_cases hlt : k < perm.length
  · have hst := invTo_set h hlt
    have hr := h.rng _ (List.getElem_mem hlt)
    (refine Q181 ?_; refine zm ?_; (focus ((with_reducible apply AOps.index_map); (iterate 7 exact rfl); rotate_left; omega)); refine zr ?_; (iterate 2 refine za ?_); refine zd ?_; refine Q85 ?_; refine Q190 ?_; refine zm ?_; refine zj ?_; refine AOps.index_own_mapI rfl rfl rfl rfl rfl rfl rfl (by omega) (by omega) ?_; refine AOps.store_o1 rfl rfl rfl rfl rfl rfl rfl rfl ?_; refine AOps.nil ?_; refine Q110 ?_)
    exact ⟨k + 1, by omega, by omega, weak rfl (by (refine ⟨.intE (by first | with_reducible rfl | (first | rfl | (rw [setI1, hst]))), ?_⟩; refine ⟨.ownE (by first | with_reducible rfl | (first | rfl | (rw [setI1, hst]))) rfl, ?_⟩; refine ⟨.intE (by first | with_reducible rfl | (first | rfl | (rw [setI1, hst]))), ?_⟩; refine ⟨.pvE (by first | with_reducible rfl | (first | rfl | (rw [setI1, hst]))), ?_⟩; refine ⟨.eq rfl rfl, ?_⟩; exact trivial)) (by (refine ⟨.row rfl, ?_⟩; exact trivial)) rfl⟩
  · obtain rfl : k = perm.length := by omega
    rw [invTo_all h]
    (refine Q52 ?_; refine Q44 ?_; refine Q96 ?_)
    (apply ends_ret; (exact Res.one (.tmp rfl rfl)); (exact Le.own _ _ _ _ rfl))
abbrev bO (gs : List GateM) : List (Nat × Option Ob) := [(0, some (.box [.pv (gatesV gs)]))]
theorem bInput_fn (gs : List GateM) (v : Int) (hl : gs.length ≤ 1000000) (hne : 0 < gs.length) : FnX Tryz.prog 78 1 (bO gs) [.ptr 0 0, litI v] (bO (inputG gs v).1) (litI (inputG gs v).2) := by
  have hi := pInput_fn gs v hl hne
  generalize inputG gs v = p at hi ⊢
  obtain ⟨gs', r⟩ := p
  simp only at hi ⊢
  refine FnX.enter (n := 21) Tryz.func78 rfl rfl rfl rfl rfl (by decide) rfl rfl fun g hro_ hwt_ => ?_; refine Q140 ?_
  (refine Q177 ?_; refine AOps.move_ptr rfl rfl rfl ?_; refine Q158 ?_; refine Q202 ?_; refine Q337 ?_)
  (apply endsX_ret; ((exact Res.one (.tmp rfl rfl))); ((exact Q193)); ((exact Q174)); exact rfl)
theorem bAnd_fn (gs : List GateM) (a b : Int) (hl : gs.length ≤ 400000) (hne : 0 < gs.length) (ha : -1000000 ≤ a ∧ a ≤ 1000000) (hb : -1000000 ≤ b ∧ b ≤ 1000000) : FnX Tryz.prog 46 1 (bO gs) [.ptr 0 0, litI a, litI b] (bO (andG gs a b).1) (litI (andG gs a b).2) := by
  have hi := pAnd_fn gs a b hl hne ha hb
  generalize andG gs a b = p at hi ⊢
  obtain ⟨gs', r⟩ := p
  simp only at hi ⊢
  refine FnX.enter (n := 24) Tryz.func46 rfl rfl rfl rfl rfl (by decide) rfl rfl fun g hro_ hwt_ => ?_; refine Q140 ?_
  (refine Q177 ?_; refine AOps.move_ptr rfl rfl rfl ?_; refine Q158 ?_; refine Q80 ?_; refine Q337 ?_)
  (apply endsX_ret; ((exact Res.one (.tmp rfl rfl))); ((exact Q193)); ((exact Q174)); exact rfl)
theorem bOr_fn (gs : List GateM) (a b : Int) (hl : gs.length ≤ 100000) (hne : 0 < gs.length) (ha : -500000 ≤ a ∧ a ≤ 500000) (hb : -500000 ≤ b ∧ b ≤ 500000) : FnX Tryz.prog 80 1 (bO gs) [.ptr 0 0, litI a, litI b] (bO (orG gs a b).1) (litI (orG gs a b).2) := by
  have h1 := pNot_fn a (by omega)
  have h2 := pNot_fn b (by omega)
  have b1 := notR_b ha
  have b2 := notR_b hb
  have h3 := bAnd_fn gs (notR a) (notR b) (by omega) hne (by omega) (by omega)
  have q3 := andG_b (gs := gs) (a := notR a) (b := notR b) (by omega) (by omega) (by omega)
  unfold orG
  generalize andG gs (notR a) (notR b) = p at h3 q3 ⊢
  generalize notR a = na at h1 h3 b1
  generalize notR b = nb at h2 h3 b2
  obtain ⟨gs', r⟩ := p
  simp only at h3 q3 ⊢
  have h4 := pNot_fn r (by omega)
  generalize notR r = nr at h4 ⊢
  refine FnX.enter (n := 14) Tryz.func80 rfl rfl rfl rfl rfl (by decide) rfl rfl fun g hro_ hwt_ => ?_; refine Q140 ?_
  (refine Q177 ?_; refine AOps.move_ptr rfl rfl rfl ?_; refine zm ?_; refine zA (h1) ?_; refine zm ?_; refine zA (h2) ?_; refine zX (h3) ?_; refine nx ?_; refine nz ?_; refine zA (h4) ?_; refine Q42 ?_)
  (apply endsX_ret; ((exact Res.one (.tmp rfl rfl))); ((exact Q193)); ((exact Q174)); exact rfl)
end Go.Ab
/- Chapter 19: a reference's value, walked: the reference's Eval and the program's. -/
namespace Go.Ab
open Go Go.Proofs
open Nat (reduceAdd reduceSub)
set_option maxRecDepth 20000
set_option maxHeartbeats 4000000
attribute [local irreducible] AW AOps thenD inBlockD AR iterEnds roundEndsN inlEnds noGotoD
theorem doneG_take (gs : List GateM) (vals : List Bool) {i : Nat} (h : i < gs.length) : doneG gs vals (i + 1) = doneG gs vals i ++ [gateV vals (doneG gs vals i) gs[i]] := by
  rw [doneG, List.getD_eq_getElem?_getD, List.getElem?_eq_getElem h]; rfl
theorem CirOk.cases {gs : List GateM} (hc : CirOk gs) {i : Nat} (h : i < gs.length) : (gs[i].k = 0) ∨ (gs[i].k = 1 ∧ 1 ≤ gs[i].a ∧ gs[i].a ≤ 1000) ∨ (gs[i].k = 2 ∧ 2 ≤ gs[i].a ∧ gs[i].a < gs[i].b ∧ gs[i].b < 2 * (i : Int)) := by
  by_cases h0 : i = 0
  · subst h0
    have := hc.zero
    rw [List.getElem?_eq_getElem h] at this
    rw [Option.some.inj this]
    exact .inl rfl
  · rcases hc.ok i h h0 with h1 | h1
    · exact .inr (.inl ⟨h1.1, h1.2.1, h1.2.2.1⟩)
    · exact .inr (.inr ⟨h1.1, h1.2.1, h1.2.2.1, h1.2.2.2.1⟩)
theorem inV_at {vals : List Bool} {a : Int} (h : 1 ≤ a) (h2 : a ≤ (vals.length : Int)) : inV vals a = vals[(a - 1).toNat]'(by omega) := by
  unfold inV
  rw [List.getD_eq_getElem?_getD, List.getElem?_eq_getElem (by omega)]; rfl
theorem inV_out {vals : List Bool} {a : Int} (h : 1 ≤ a) (h2 : ¬ a ≤ (vals.length : Int)) : inV vals a = false := by
  unfold inV
  rw [List.getD_eq_getElem?_getD, List.getElem?_eq_none (by omega)]; rfl
theorem refV_at {done : List Bool} {r : Int} (h : 0 ≤ r) (h2 : r < 2 * (done.length : Int)) : refV done r = decide (done[(r / 2).toNat]'(by omega) = decide (r % 2 = 0)) := by
  unfold refV
  rw [List.getD_eq_getElem?_getD, List.getElem?_eq_getElem (by omega)]
  simp only [Option.getD_some]
  cases done[(r / 2).toNat]'(by omega) <;> cases decide (r % 2 = 0) <;> rfl
theorem evalG_done (gs : List GateM) (vals : List Bool) {r : Int} (h0 : 0 ≤ r) {d : List Bool} (hd : d = doneG gs vals ((r / 2).toNat + 1)) : ∃ h : (r / 2).toNat < d.length, evalG gs vals r = decide (d[(r / 2).toNat] = decide (r % 2 = 0)) := by
  subst hd
  refine ⟨by rw [doneG_len]; omega, ?_⟩
  rw [← refV_done gs vals (m := (r / 2).toNat + 1) h0 (by omega)]
  exact refV_at h0 (by rw [doneG_len]; omega)
theorem eval_fn (gs : List GateM) (vals : List Bool) (r : Int) (hc : CirOk gs) (hr : RefOk gs r) (hl : gs.length ≤ 100000) (hv : vals.length ≤ 100000) : Fn Tryz.prog 27 [crc gs, .pv (bools vals), litI r] (litB (evalG gs vals r)) := by
  have hr0 := hr
  unfold RefOk at hr
  refine Fn.enter (n := 92) Tryz.func27 rfl rfl rfl rfl rfl (by decide) fun g hro_ hwt_ => ?_; (try refine nz ?_)
  have p1 : ¬ r < 0 := by omega
  have p2 : ¬ 2 * (gs.length : Int) ≤ r := by omega
  (refine Q64 ?_; refine Q214 ?_; refine zs ?_; refine Q13 ?_; refine AOps.fieldAddrN 44 0 0 rfl rfl rfl rfl ?_; refine Q70 ?_; refine zn ?_; refine zy ?_; refine AOps.mul rfl rfl rfl rfl rfl (by omega) ?_; refine zy ?_; refine Q195 ?_; refine Q184 ?_; refine Q135 ?_)
  (refine nz ?_; apply AW.loopR [6, 3, 1, 2] [0] (fun i : Nat => ([(8, litI i), (7, .own 1 4 1 ((doneG gs vals i).map encB))] : List (Nat × AV))) (fun i : Nat => ([(1, some .row)] : List (Nat × Option Ob))) (fun i : Nat => i ≤ (r / 2).toNat + 1) (fun i : Nat => (r / 2).toNat + 1 - i) (0); (conv => lhs; simp only [Nf.lpR, Nf.all, Nat.reduceBEq, reduceAdd, reduceSub]); (all_goals skip))
  · exact Nat.zero_le _
  · exact weak rfl (by (refine ⟨.eq rfl rfl, ?_⟩; refine ⟨.nilown _ _ _ rfl rfl, ?_⟩; (iterate 4 refine ⟨.eq rfl rfl, ?_⟩); exact trivial)) (by (refine ⟨.newrow rfl, ?_⟩; refine ⟨.box _ rfl ?_, ?_⟩; refine ⟨.eq rfl rfl, ?_⟩; (iterate 2 exact trivial))) rfl
  rintro i hi
  have hdl := doneG_len gs vals i
  by_cases hlt : i < (r / 2).toNat + 1
  · have hig : i < gs.length := by omega
    have hdt := doneG_take gs vals hig
    have hi2 : (i : Int) ≤ r / 2 := by omega
    generalize doneG gs vals i = d at hdl hdt ⊢
    rcases hc.cases hig with k0 | ⟨k1, a1, a2⟩ | ⟨k2, a1, a2, a3⟩
    · have n1 : ¬ gs[i].k = 1 := by omega
      have n2 : ¬ gs[i].k = 2 := by omega
      have e : gateV vals d gs[i] = true := by unfold gateV; rw [if_neg n1, if_neg n2]
      rw [e] at hdt
      (refine Q333 ?_; (focus ((with_reducible apply AOps.index_map); (iterate 7 exact rfl); rotate_left; omega)); refine Q213 ?_; refine Q28 ?_; refine Q30 ?_; refine Q93 ?_; refine Q28 ?_; refine Q339 ?_; (with_reducible apply AOps.appendS); exact rfl; (first | exact .pv rfl | exact .own rfl | exact .nil rfl); (iterate 9 exact rfl); (first | omega | (simp only [List.length_map, List.length_append, List.length_cons, List.length_nil, List.length_drop, List.length_take, List.length_set, chunk_len]; omega)); refine Q300 ?_)
      exact Q14
    · have n2 : ¬ gs[i].k = 2 := by omega
      have e : gateV vals d gs[i] = inV vals gs[i].a := by unfold gateV; rw [if_pos k1]
      rw [e] at hdt
      by_cases hle : gs[i].a ≤ (vals.length : Int)
      · rw [inV_at a1 hle] at hdt
        (refine Q333 ?_; (focus ((with_reducible apply AOps.index_map); (iterate 7 exact rfl); rotate_left; omega)); refine Q213 ?_; refine zc ?_; refine Q179 ?_; refine Q211 ?_; refine zm ?_; refine Q266 ?_; refine Q43 ?_; refine AOps.fieldAddrN 87 1 1 rfl rfl rfl rfl ?_; refine zt ?_; refine zb ?_; refine Q152 ?_; (focus ((with_reducible apply AOps.index_mapI); (iterate 7 exact rfl); omega; rotate_left; (first | omega | exact Nat.zero_lt_one | exact (by simp)))); refine zt ?_; refine zr ?_; refine zT ?_; refine Q61 ?_; refine Q93 ?_; refine Q28 ?_; refine Q339 ?_; (with_reducible apply AOps.appendS); exact rfl; (first | exact .pv rfl | exact .own rfl | exact .nil rfl); (iterate 9 exact rfl); (first | omega | (simp only [List.length_map, List.length_append, List.length_cons, List.length_nil, List.length_drop, List.length_take, List.length_set, chunk_len]; omega)); refine Q300 ?_)
        exact Q14
      · rw [inV_out a1 hle] at hdt
        (refine Q333 ?_; (focus ((with_reducible apply AOps.index_map); (iterate 7 exact rfl); rotate_left; omega)); refine Q213 ?_; refine zc ?_; refine Q179 ?_; refine Q211 ?_; refine zm ?_; refine Q266 ?_; refine zm ?_; refine Q272 ?_; refine Q61 ?_; refine Q93 ?_; refine Q28 ?_; refine Q339 ?_; (with_reducible apply AOps.appendS); exact rfl; (first | exact .pv rfl | exact .own rfl | exact .nil rfl); (iterate 9 exact rfl); (first | omega | (simp only [List.length_map, List.length_append, List.length_cons, List.length_nil, List.length_drop, List.length_take, List.length_set, chunk_len]; omega)); refine Q300 ?_)
        exact Q14
    · have n1 : ¬ gs[i].k = 1 := by omega
      have e : gateV vals d gs[i] = (refV d gs[i].a && refV d gs[i].b) := by unfold gateV; rw [if_neg n1, if_pos k2]
      rw [e, refV_at (r := gs[i].a) (by omega) (by omega), refV_at (r := gs[i].b) (by omega) (by omega)] at hdt
      by_cases c1 : d[(gs[i].a / 2).toNat]'(by omega) = decide (gs[i].a % 2 = 0)
      · rw [decide_eq_true c1, Bool.true_and] at hdt
        have c1' := decide_eq_true c1
        (refine Q333 ?_; (focus ((with_reducible apply AOps.index_map); (iterate 7 exact rfl); rotate_left; omega)); refine Q213 ?_; refine Q28 ?_; refine Q30 ?_; refine Q93 ?_; refine zc ?_; refine zo ?_; (with_reducible apply AW.regionQ); exact rfl; exact rfl; kernel_rfl; (with_reducible assumption); refine AOps.move_own rfl rfl rfl ?_; refine Q211 ?_; refine Q127 ?_; (focus ((with_reducible apply AOps.load_o1_mapI); (iterate 4 exact rfl); exact (fun h_ => by cases h_); rotate_left; (first | omega | exact Nat.zero_lt_one | exact (by simp)))); refine Q211 ?_; refine Q134 ?_; refine Q5 ?_; refine zo ?_; (with_reducible apply AW.regionQ); exact rfl; exact rfl; kernel_rfl; (with_reducible assumption); refine AOps.move_own rfl rfl rfl ?_; refine AOps.fieldAddrN 87 2 2 rfl rfl rfl rfl ?_; refine zb ?_; refine Q127 ?_; (focus ((with_reducible apply AOps.load_o1_mapI); (iterate 4 exact rfl); exact (fun h_ => by cases h_); rotate_left; (first | omega | exact Nat.zero_lt_one | exact (by simp)))); refine AOps.fieldAddrN 87 2 2 rfl rfl rfl rfl ?_; refine zb ?_; refine Q134 ?_; refine Q5 ?_; refine Q279 ?_; refine zt ?_; refine zm ?_; refine zT ?_; refine Q5 ?_; refine Q339 ?_; (with_reducible apply AOps.appendS); exact rfl; (first | exact .pv rfl | exact .own rfl | exact .nil rfl); (iterate 9 exact rfl); (first | omega | (simp only [List.length_map, List.length_append, List.length_cons, List.length_nil, List.length_drop, List.length_take, List.length_set, chunk_len]; omega)); refine Q300 ?_)
        exact Q14
      · rw [decide_eq_false c1, Bool.false_and] at hdt
        have c1' := decide_eq_false c1
        (refine Q333 ?_; (focus ((with_reducible apply AOps.index_map); (iterate 7 exact rfl); rotate_left; omega)); refine Q213 ?_; refine Q28 ?_; refine Q30 ?_; refine Q93 ?_; refine zc ?_; refine zo ?_; (with_reducible apply AW.regionQ); exact rfl; exact rfl; kernel_rfl; (with_reducible assumption); refine AOps.move_own rfl rfl rfl ?_; refine Q211 ?_; refine Q127 ?_; (focus ((with_reducible apply AOps.load_o1_mapI); (iterate 4 exact rfl); exact (fun h_ => by cases h_); rotate_left; (first | omega | exact Nat.zero_lt_one | exact (by simp)))); refine Q211 ?_; refine Q134 ?_; refine Q5 ?_; refine zo ?_; (with_reducible apply AW.regionQ); exact rfl; exact rfl; kernel_rfl; (with_reducible assumption); refine AOps.move_own rfl rfl rfl ?_; refine AOps.fieldAddrN 87 2 2 rfl rfl rfl rfl ?_; refine zb ?_; refine Q127 ?_; (focus ((with_reducible apply AOps.load_o1_mapI); (iterate 4 exact rfl); exact (fun h_ => by cases h_); rotate_left; (first | omega | exact Nat.zero_lt_one | exact (by simp)))); refine AOps.fieldAddrN 87 2 2 rfl rfl rfl rfl ?_; refine zb ?_; refine Q134 ?_; refine Q5 ?_; refine Q279 ?_; refine Q316 ?_; refine Q5 ?_; refine Q339 ?_; (with_reducible apply AOps.appendS); exact rfl; (first | exact .pv rfl | exact .own rfl | exact .nil rfl); (iterate 9 exact rfl); (first | omega | (simp only [List.length_map, List.length_append, List.length_cons, List.length_nil, List.length_drop, List.length_take, List.length_set, chunk_len]; omega)); refine Q300 ?_)
        exact Q14
  · have he : i = (r / 2).toNat + 1 := by omega
    have hi2 : ¬ (i : Int) ≤ r / 2 := by omega
    obtain ⟨d, hd⟩ : ∃ d, d = doneG gs vals i := ⟨_, rfl⟩
    obtain ⟨hd2, hev⟩ := evalG_done gs vals (r := r) (by omega) (d := d) (by rw [hd, he])
    rw [hev, ← hd]
    rw [← hd] at hdl
    clear hev hd
    (refine Q136 ?_; refine zd ?_; refine Q44 ?_; refine Q319 ?_; refine Q127 ?_; (focus ((with_reducible apply AOps.load_o1_mapI); (iterate 4 exact rfl); exact (fun h_ => by cases h_); rotate_left; (first | omega | exact Nat.zero_lt_one | exact (by simp)))); refine zm ?_; refine Q134 ?_; refine Q42 ?_)
    (apply ends_ret; (exact Res.one (.tmp rfl rfl)); (refine Le.litB ?_; (rfl)))
end Go.Ab
