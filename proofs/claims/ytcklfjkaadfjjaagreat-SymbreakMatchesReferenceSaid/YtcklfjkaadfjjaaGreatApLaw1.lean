/- For any symmetries of valid bounds, and any permutation of at most 20 variables, all functions return the same results as the reference implementation. No conditions. -/
import Derived.Test.YtcklfjkaadfjjaaGreatApR1
import Derived.Test.YtcklfjkaadfjjaaGreatAbZ
import Derived.Test.YtcklfjkaadfjjaaGreatAbL3
import Derived.Test.YtcklfjkaadfjjaaGreatAbL2
import Derived.Test.YtcklfjkaadfjjaaGreatRows
import Derived.WalkKit
import Derived.ProofKit
import Derived.OpenShut
import Derived.ChangeOld
import Derived.Below
set_option linter.unusedSimpArgs false
set_option linter.unusedVariables false
namespace Go.Ab
open Go Go.Proofs
open Nat (reduceAdd reduceSub)
set_option maxRecDepth 20000
set_option maxHeartbeats 8000000
theorem canon_one (x : Int) : canon [x] = [x] := canon_id (List.pairwise_singleton _ _)
theorem field_of {s : SpecM} {st : Nat} {bs : List BndM} {p : List Int} (h : LitOk s st bs p) {v : VarT} (hv : v ∈ varsM 1 st (freeL 0 bs) (vrF s.fields)) (h0 : 0 ≤ v.1) : 0 ≤ v.2.1 ∧ (0 ≤ v.2.2 ∧ v.2.2 ≤ 1000000) ∧ ∃ hh : v.2.1.toNat < s.fields.length, arF s.fields v.2.1 = s.fields[v.2.1.toNat].sorts.length := by
  rcases mem_vars.1 hv with hm | ⟨_, hm, _⟩
  · omega
  · obtain ⟨j, hj, h1, _⟩ := freeL_mem hm
    simp only [Nat.zero_add] at h1
    have hnb : bs.length = s.fields.length := h.nb.1
    have hr := h.rk _ hm
    simp only at hr
    refine ⟨by omega, hr, by omega, ?_⟩
    unfold arF
    rw [getD_of (by omega)]
theorem vars_small {s : SpecM} {st : Nat} {bs : List BndM} {p : List Int} (h : LitOk s st bs p) (o : Int) : (varsM o st (freeL 0 bs) (vrF s.fields)).length ≤ 6000000 := by
  have h1 := stP_len (o := o) (st := st) (fr := freeL 0 bs) (vr := vrF s.fields) (s := st) (k := 0) (Nat.le_refl _)
  rw [stP_end] at h1
  have h2 := lit_frl h
  have h3 : (st + 1) * (freeL 0 bs).length ≤ 5 * 1000000 := Nat.mul_le_mul (by have := h.stb.2; omega) h2
  have := h.stb.2
  omega
attribute [local irreducible] AW AOps thenD inBlockD AR iterEnds roundEndsN inlEnds noGotoD findZ outZ varsM freeL imgR canon actV predM andG inputG orG notR brkM litV ordM
theorem rLiterals_fn (s : SpecM) (at' : List Int) (st : Nat) (bs : List BndM) (p : List Int) (h : LitOk s st bs p) (hv : VarOk s st bs) : Fn Tryz.prog 19 [spc s, scp at' (st : Int), .pv (bnds bs), .pv (ints p)] (.pv (ints (litV 0 p.length (arF s.fields) st (vrF s.fields) bs p))) := by
  have hvf := vars24_fn s at' st bs hv
  have hvr : (fun f => (s.fields.getD f.toNat ⟨ByteArray.empty, [], false⟩).var) = vrF s.fields := rfl
  rw [hvr] at hvf
  have hfo := fun v hv h0 => field_of h (v := v) hv h0
  have hvs := vars_small h 1
  have hmem := act_mem1 h.mem
  have hneg : ∀ v ∈ varsM 1 st (freeL 0 bs) (vrF s.fields), ¬ 0 ≤ v.1 → actV p.length (arF s.fields) p v = v := fun v _ h0 => by unfold actV; rw [if_neg h0]
  have hpos : ∀ v : VarT, 0 ≤ v.1 → actV p.length (arF s.fields) p v = (v.1, v.2.1, imgR p.length p (arF s.fields v.2.1) v.2.2) := fun v h0 => by unfold actV; rw [if_pos h0]
  rw [← lit_o]
  have hlit : litV 1 p.length (arF s.fields) st (vrF s.fields) bs p = outZ (varsM 1 st (freeL 0 bs) (vrF s.fields)) (actV p.length (arF s.fields) p) (varsM 1 st (freeL 0 bs) (vrF s.fields)).length := by
    rw [outZ_all hmem]; unfold litV; rfl
  rw [hlit]
  obtain ⟨srt, hpa⟩ := h.pa
  have hpr : ∀ (ar : Nat) (t : Int), ar ≤ 3 → (0 ≤ t ∧ t ≤ 1000000) → Fn Tryz.prog 50 [scp at' (st : Int), .pv (ints p), relA ((ar : Int), [t])] (relA ((ar : Int), [imgR p.length p ar t])) := fun ar t ha ht => by
    have := rel11_fn at' (st : Int) p ar [t] hpa h.pl.1 h.pl.2 ha (fun x hx => by rw [List.mem_singleton] at hx; rw [hx]; exact ht) (by simp)
    rwa [List.map_singleton, canon_one] at this
  have har := h.ar
  clear hlit hmem
  generalize varsM 1 st (freeL 0 bs) (vrF s.fields) = V at hvf hfo hvs hneg ⊢
  generalize hF : actV p.length (arF s.fields) p = F at hneg hpos ⊢
  obtain ⟨so, fs, pr, fa⟩ := s
  simp only at *
  refine Fn.enter (n := 58) Tryz.func19 rfl rfl rfl rfl rfl (by decide) fun g hro_ hwt_ => ?_; (try refine nz ?_)
  (refine Q105 ?_; refine Q51 ?_; refine Q41 ?_; refine Q202 ?_; refine zP (hvf) ?_; refine Q51 ?_; refine Q135 ?_)
  (refine nz ?_; apply AW.loopR [9, 8, 5, 4, 3] [1, 0] (fun k : Nat => ([(11, litI k), (10, .own 2 3 1 ((outZ V F k).map encI))] : List (Nat × AV))) (fun k : Nat => ([(2, some .row)] : List (Nat × Option Ob))) (fun k : Nat => k ≤ V.length) (fun k : Nat => V.length - k) (0); (conv => lhs; simp only [Nf.lpR, Nf.all, Nat.reduceBEq, reduceAdd, reduceSub]); (all_goals skip))
  · exact Nat.zero_le _
  · rw [show outZ V F 0 = [] by unfold outZ; rfl]
    exact weak rfl (by (refine ⟨.eq rfl rfl, ?_⟩; refine ⟨.nilown _ _ _ rfl rfl, ?_⟩; (iterate 5 refine ⟨.eq rfl rfl, ?_⟩); exact trivial)) (by (refine ⟨.newrow rfl, ?_⟩; refine ⟨.box _ rfl ?_, ?_⟩; (iterate 2 refine ⟨.eq rfl rfl, ?_⟩); exact trivial; refine ⟨.box _ rfl ?_, ?_⟩; (iterate 4 refine ⟨.eq rfl rfl, ?_⟩); (iterate 2 exact trivial))) rfl
  rintro k hk
  have hol := outZ_len V F k
  by_cases hlt : k < V.length
  · have hs := outZ_snoc F hlt
    have hm := List.getElem_mem hlt
    by_cases h0 : 0 ≤ V[k].1
    · obtain ⟨f0, f1, f2, f3⟩ := hfo _ hm h0
      rw [hpos _ h0, f3] at hs
      have hrel := hpr fs[V[k].2.1.toNat].sorts.length V[k].2.2 (har _ (List.getElem_mem f2)).2 f1
      generalize imgR p.length p fs[V[k].2.1.toNat].sorts.length V[k].2.2 = im at hs hrel
      have hfi := find24_fn V (V[k].1, V[k].2.1, im) (by omega)
      (refine Q204 ?_; (focus ((with_reducible apply AOps.index_map); (iterate 7 exact rfl); rotate_left; omega)); refine Q74 ?_; refine Q120 ?_; refine Q46 ?_; refine AOps.fieldAddrN 108 0 0 rfl rfl rfl rfl ?_; refine zb ?_; refine AOps.geq rfl rfl rfl rfl rfl ?_; refine zd ?_; refine zc ?_; refine zo ?_; refine AW.regionM [0, 1, 2, 3, 4, 5, 6, 7, 8, 9, 10, 11] [16] rfl (by assumption) (by kernel_rfl) (by kernel_rfl) rfl ?_; show AOps .held _ _ _ [_, _, _, _, _, _, _, _, _, _, _, _] _ _; refine Q202 ?_; refine Q101 ?_; refine AOps.fieldAddrN 108 1 1 rfl rfl rfl rfl ?_; refine zb ?_; (focus ((with_reducible apply AOps.index_mapI); (iterate 7 exact rfl); omega; rotate_left; (first | omega | exact Nat.zero_lt_one | exact (by simp)))); refine Q191 ?_; refine zn ?_; refine AOps.fieldAddrN 108 2 2 rfl rfl rfl rfl ?_; refine zb ?_; refine Q7 ?_; intro k_ hk_; refine nz ?_; apply AR.cut [11, 10, 9, 8, 7, 6, 5, 4, 3, 2, 1, 0, 12, 13, 14, 15]; intro hJ_0; apply AR.cut [11, 10, 9, 8, 7, 6, 5, 4, 3, 2, 1, 0, 12, 13, 15]; intro hJ_1; (refine AR.step2M (i := 12) (j := 15) rfl (by kernel_rfl) rfl rfl ?_ ?_ <;> intro g_ hgro_ hw_); refine Q50 ?_; refine Q7 ?_; refine AR.free 13 (by kernel_rfl) rfl rfl rfl (Frees.build 105 [0, 1] rfl rfl rfl rfl rfl rfl rfl rfl) ?_; (try refine nz ?_); (refine AR.step2M (i := 14) (j := 15) rfl (by kernel_rfl) rfl rfl ?_ ?_ <;> intro g_ hgro_ hw_); refine Q167 ?_; refine zP (hrel) ?_; refine Q7 ?_; refine AR.step1M (i := 15) rfl (by kernel_rfl) rfl ?_; intro g_ hgro_ hw_; refine Q90 ?_; refine AR.gc [5, 3, 2, 1, 0] rfl ?_; refine Q32 ?_; exact AR.perm (by kernel_rfl) hJ_0; exact Q290; refine Q9 ?_; refine Q307 ?_; intro g_ hgro_ hw_; refine Q50 ?_; refine Q7 ?_; refine AR.free 13 (by kernel_rfl) rfl rfl rfl (Frees.build 105 [0, 1] rfl rfl rfl rfl rfl rfl rfl rfl) ?_; (try refine nz ?_); (try refine nz ?_); refine AR.sw 4 5 (by assumption) (by kernel_rfl) (by kernel_rfl) ?_; refine Q261 ?_; refine AR.meet hJ_1 (by kernel_rfl) (fun g_ => weak rfl ?_ ?_ rfl); (iterate 34 refine ⟨.eq rfl rfl, ?_⟩); exact trivial; refine ⟨.box _ rfl ?_, ?_⟩; (iterate 2 refine ⟨.eq rfl rfl, ?_⟩); exact trivial; refine ⟨.row rfl, ?_⟩; refine Q34 ?_; refine ⟨.row rfl, ?_⟩; exact Q21; refine AR.step1M (i := 14) rfl (by kernel_rfl) rfl ?_; intro g_ hgro_ hw_; refine Q167 ?_; refine zP (hrel) ?_; refine Q40 ?_; refine AR.meet hJ_0 (by kernel_rfl) (fun g_ => weak rfl ?_ ?_ rfl); (iterate 35 refine ⟨.eq rfl rfl, ?_⟩); exact trivial; refine ⟨.box _ rfl ?_, ?_⟩; (iterate 2 refine ⟨.eq rfl rfl, ?_⟩); exact trivial; refine Q34 ?_; refine ⟨.row rfl, ?_⟩; exact Q21; refine AR.step1LM (i := 16) rfl (by kernel_rfl) rfl (by kernel_rfl) ?_; intro g_ hgro_ hwt2_; refine Q292 ?_; refine Q33 ?_; refine AW.region ?_; refine Q39 ?_; (focus ((with_reducible apply AOps.index_mapI); (iterate 7 exact rfl); omega; rotate_left; (first | omega | exact Nat.zero_lt_one | exact (by simp)))); refine zr ?_; refine AOps.fieldAddrN 108 2 2 rfl rfl rfl rfl ?_; refine Q35 ?_; refine nz ?_; refine zd ?_; refine AW.region ?_; refine Q319 ?_; refine Q41 ?_; refine zA (hfi) ?_; refine Q50 ?_; (with_reducible apply AOps.appendS); exact rfl; (first | exact .pv rfl | exact .own rfl | exact .nil rfl); (iterate 9 exact rfl); (first | omega | (simp only [List.length_map, List.length_append, List.length_cons, List.length_nil, List.length_drop, List.length_take, List.length_set, chunk_len]; omega)); refine Q300 ?_)
      exact Q26
    · rw [hneg _ hm h0] at hs
      have hfi := find24_fn V V[k] (by omega)
      (refine Q204 ?_; (focus ((with_reducible apply AOps.index_map); (iterate 7 exact rfl); rotate_left; omega)); refine Q74 ?_; refine Q120 ?_; refine Q46 ?_; refine AOps.fieldAddrN 108 0 0 rfl rfl rfl rfl ?_; refine zb ?_; refine AOps.geq rfl rfl rfl rfl rfl ?_; refine Q154 ?_; refine Q85 ?_; refine zm ?_; refine Q41 ?_; refine zA (hfi) ?_; refine Q50 ?_; (with_reducible apply AOps.appendS); exact rfl; (first | exact .pv rfl | exact .own rfl | exact .nil rfl); (iterate 9 exact rfl); (first | omega | (simp only [List.length_map, List.length_append, List.length_cons, List.length_nil, List.length_drop, List.length_take, List.length_set, chunk_len]; omega)); refine Q300 ?_)
      exact Q26
  · obtain rfl : k = V.length := by omega
    (refine Q10 ?_; refine Q44 ?_; refine Q96 ?_)
    (apply ends_ret; (exact Res.one (.tmp rfl rfl)); (exact Le.own _ _ _ _ rfl))
theorem rPredicate_fn (gs : List GateM) (perm order : List Int) (hc : CirOk gs) (hp : PermOk perm) (hn : perm.length ≤ 1000) (ho : ∀ w ∈ order, 1 ≤ w ∧ w ≤ perm.length) (hol : order.length ≤ 1000) (hl : gs.length + 6 * order.length < 18000) :
    Fn Tryz.prog 10 [crc gs, .pv (ints perm), .pv (ints order)] (.tup [crc (predM gs perm order).1, litI (predM gs perm order).2]) := by
  have hiv := inv24_fn perm hp hn
  have hil := inv_len perm
  refine Fn.enter (n := 93) Tryz.func10 rfl rfl rfl rfl rfl (by decide) fun g hro_ hwt_ => ?_; (try refine nz ?_)
  (refine Q64 ?_; refine Q9 ?_; refine Q51 ?_; refine zm ?_; refine zP (hiv) ?_; refine Q51 ?_; refine Q214 ?_; refine zn ?_; refine AOps.sub rfl rfl rfl rfl rfl (by omega) ?_; refine Q75 ?_)
  (refine nz ?_; apply AW.loopR [8, 7, 6, 3, 2] [1] (fun k : Nat => ([(10, litI ((k : Int) - 1)), (9, litI (predM gs perm (order.drop k)).2)] : List (Nat × AV))) (fun k : Nat => ([(0, some (.box [.pv (gatesV (predM gs perm (order.drop k)).1)]))] : List (Nat × Option Ob))) (fun k : Nat => k ≤ order.length) (fun k : Nat => k) (order.length); (conv => lhs; simp only [Nf.lpR, Nf.all, Nat.reduceBEq, reduceAdd, reduceSub]); (all_goals skip))
  · exact Nat.le_refl _
  · exact weak rfl (by (refine ⟨.intE (by first | with_reducible rfl | (first | rfl | (rw [List.drop_length]; unfold predM; rfl))), ?_⟩; refine ⟨.intE (by first | with_reducible rfl | (first | rfl | (rw [List.drop_length]; unfold predM; rfl))), ?_⟩; refine ⟨.pvE (by first | with_reducible rfl | (first | rfl | (rw [List.drop_length]; unfold predM; rfl))), ?_⟩; refine ⟨.intE (by first | with_reducible rfl | (first | rfl | (rw [List.drop_length]; unfold predM; rfl))), ?_⟩; (iterate 2 refine ⟨.eq rfl rfl, ?_⟩); refine ⟨.pvE (by first | with_reducible rfl | (first | rfl | (rw [List.drop_length]; unfold predM; rfl))), ?_⟩; exact trivial)) (by (refine ⟨.box _ rfl ?_, ?_⟩; refine ⟨.pvE (by first | with_reducible rfl | (first | rfl | (rw [List.drop_length]; unfold predM; rfl))), ?_⟩; exact trivial; refine ⟨.box _ rfl ?_, ?_⟩; refine ⟨.eq rfl rfl, ?_⟩; (iterate 2 exact trivial))) rfl
  rintro k hk
  cases k with
  | zero =>
    rw [show (((0 : Nat) : Int) - 1) = -1 from rfl, List.drop_zero]
    (refine Q98 ?_; refine AOps.geq rfl rfl rfl rfl rfl ?_; refine Q321 ?_; refine Q157 ?_; refine Q202 ?_; refine Q62 ?_; refine Q42 ?_)
    (apply ends_ret; (exact Res.two (.cell rfl rfl rfl rfl) (.tmp rfl rfl)); (refine Le.tupL ?_; refine LeL.cons ?_ ?_; refine Le.aggL ?_; refine LeL.cons ?_ ?_; (with_reducible exact Le.pv _); exact LeL.nil; refine LeL.cons ?_ ?_; refine Le.litI ?_; (rfl); exact LeL.nil))
  | succ j =>
    rw [show (((j + 1 : Nat) : Int) - 1) = (j : Int) by omega]
    have hlt : j < order.length := by omega
    have hw := ho _ (List.getElem_mem hlt)
    have hcons := predM_cons gs perm hlt
    have hdl : (order.drop (j + 1)).length ≤ order.length - 1 := by rw [List.length_drop]; omega
    have hpk := pred_ok hc hp hn (order.drop (j + 1)) (fun w hw => ho w (List.mem_of_mem_drop hw)) (by omega)
    generalize order.drop (j + 1) = od at hdl hcons hpk ⊢
    generalize predM gs perm od = p at hcons hpk ⊢
    obtain ⟨g0, r0⟩ := p
    obtain ⟨hc0, hr0, hle0, hlen0, _, _, _⟩ := hpk
    simp only at hc0 hr0 hle0 hlen0 ⊢
    have hb := hp.back hw
    have hbl : (order[j] - 1).toNat < (invM perm).length := by omega
    have hbi := inv_at hw hbl
    unfold predS at hcons
    by_cases he : backM perm order[j] = order[j]
    · rw [if_pos he] at hcons
      rw [he] at hbi
      (refine Q142 ?_; (iterate 2 refine zm ?_); (focus ((with_reducible apply AOps.index_map); (iterate 7 exact rfl); rotate_left; omega)); refine zr ?_; refine Q51 ?_; (iterate 2 refine zm ?_); refine AOps.sub rfl rfl rfl rfl rfl (by omega) ?_; (focus ((with_reducible apply AOps.index_mapI); (iterate 7 exact rfl); omega; rotate_left; (first | omega | exact Nat.zero_lt_one | exact (by simp)))); refine zr ?_; refine Q61 ?_; (iterate 2 refine zm ?_); refine AOps.eql rfl rfl rfl rfl rfl ?_; refine zd ?_; refine zc ?_; refine Q304 ?_; refine Q190 ?_; refine Q5 ?_)
      exact Q82
    · rw [if_neg he] at hcons
      rw [← hbi] at hcons he hb
      simp only at hcons
      generalize hvv : (invM perm)[(order[j] - 1).toNat] = bw at hcons he hb
      have g1 := input_ok hc0 (v := order[j]) (by omega) (by omega)
      have x1 := input_fn g0 order[j] (by omega)
      generalize inputG g0 order[j] = i1 at g1 x1 hcons
      obtain ⟨gs1, r1⟩ := i1
      obtain ⟨c1, q1, l1, m1⟩ := g1
      simp only at c1 q1 l1 m1 x1 hcons
      have g2 := input_ok c1 (v := bw) (by omega) (by omega)
      have x2 := input_fn gs1 bw (by omega)
      generalize inputG gs1 bw = i2 at g2 x2 hcons
      obtain ⟨gs2, r2⟩ := i2
      obtain ⟨c2, q2, l2, m2⟩ := g2
      simp only at c2 q2 l2 m2 x2 hcons
      have t1 := q1.mono l2
      have b1 := q1.2
      have b1' := q1.1
      have b2 := q2.2
      have b2' := q2.1
      have n2 := c13Not_fn r2 (by omega)
      have o2 := notR_ok q2
      generalize notR r2 = nr2 at n2 o2 hcons
      have o2' := o2.1
      have o2'' := o2.2
      have g3 := and_ok c2 t1 o2 (by omega)
      have x3 := and_fn gs2 r1 nr2 (by omega) (by omega) (by omega)
      generalize andG gs2 r1 nr2 = i3 at g3 x3 hcons
      obtain ⟨gs3, r3⟩ := i3
      obtain ⟨c3, q3, l3, m3⟩ := g3
      simp only at c3 q3 l3 m3 x3 hcons
      have b3 := q3.2
      have b3' := q3.1
      have n1 := c13Not_fn r1 (by omega)
      have o1 := notR_ok (t1.mono l3)
      generalize notR r1 = nr1 at n1 o1 hcons
      have o1' := o1.1
      have o1'' := o1.2
      have g4 := and_ok c3 o1 (q2.mono l3) (by omega)
      have x4 := and_fn gs3 nr1 r2 (by omega) (by omega) (by omega)
      generalize andG gs3 nr1 r2 = i4 at g4 x4 hcons
      obtain ⟨gs4, r4⟩ := i4
      obtain ⟨c4, q4, l4, m4⟩ := g4
      simp only at c4 q4 l4 m4 x4 hcons
      have b4 := q4.2
      have b4' := q4.1
      have b0 := hr0.2
      have b0' := hr0.1
      have n3 := c13Not_fn r3 (by omega)
      have o3 := notR_ok (q3.mono l4)
      generalize notR r3 = nr3 at n3 o3 hcons
      have o3' := o3.1
      have o3'' := o3.2
      have g5 := or_ok c4 q4 ((((hr0.mono l1).mono l2).mono l3).mono l4) (by omega)
      have x5 := or_fn gs4 r4 r0 (by omega) (by omega) (by omega) (by
        have na := notR_b (r := r4) (by omega)
        have nb := notR_b (r := r0) (by omega)
        have := andG_b (gs := gs4) (a := notR r4) (b := notR r0) (by omega) (by omega) (by omega)
        omega)
      generalize orG gs4 r4 r0 = i5 at g5 x5 hcons
      obtain ⟨gs5, r5⟩ := i5
      obtain ⟨c5, q5, l5, m5⟩ := g5
      simp only at c5 q5 l5 m5 x5 hcons
      have b5 := q5.2
      have b5' := q5.1
      have x6 := and_fn gs5 nr3 r5 (by omega) (by omega) (by omega)
      generalize andG gs5 nr3 r5 = i6 at x6 hcons
      obtain ⟨gs6, r6⟩ := i6
      simp only at x6 hcons
      have he' : ¬ (invM perm)[(order[j] - 1).toNat] = order[j] := by rw [hvv]; exact he
      rw [← hvv] at x2
      (refine Q142 ?_; (iterate 2 refine zm ?_); (focus ((with_reducible apply AOps.index_map); (iterate 7 exact rfl); rotate_left; omega)); refine zr ?_; refine Q51 ?_; (iterate 2 refine zm ?_); refine AOps.sub rfl rfl rfl rfl rfl (by omega) ?_; (focus ((with_reducible apply AOps.index_mapI); (iterate 7 exact rfl); omega; rotate_left; (first | omega | exact Nat.zero_lt_one | exact (by simp)))); refine zr ?_; refine Q61 ?_; (iterate 2 refine zm ?_); refine AOps.eql rfl rfl rfl rfl rfl ?_; refine Q184 ?_; refine Q202 ?_; refine zP (x1) ?_; refine Q37 ?_; refine nz ?_; refine Q51 ?_; refine Q202 ?_; refine zP (x2) ?_; refine Q37 ?_; refine nz ?_; refine Q5 ?_; refine zo ?_; (with_reducible apply AW.keepR 11 28 [2,3,6,7,8,9,10,14,15,16]); exact rfl; refine Q223 ?_; refine Q318 ?_; show AOps .held _ _ _ [_, _, _] _ _; refine Q80 ?_; refine Q7 ?_; intro k_ hk_; refine nz ?_; apply AR.cut [2, 1, 0, 3, 4, 5, 6, 7, 8, 9]; intro hJ_0; apply AR.cut [2, 1, 0, 3, 4, 5, 6, 7, 8]; intro hJ_1; apply AR.cut [2, 1, 0, 3, 4, 5, 6, 7]; intro hJ_2; apply AR.cut [2, 1, 0, 3, 4, 5, 7, 8]; intro hJ_3; apply AR.cut [2, 1, 0, 3, 4, 5, 6, 8]; intro hJ_4; apply AR.cut [2, 1, 0, 3, 4, 5, 8]; intro hJ_5; apply AR.cut [2, 1, 0, 3, 8]; intro hJ_6; (refine AR.step2M (i := 3) (j := 8) rfl (by kernel_rfl) rfl rfl ?_ ?_ <;> intro g_ hgro_ hw_); refine zA (n2) ?_; refine Q7 ?_; (refine AR.step2M (i := 4) (j := 8) rfl (by kernel_rfl) rfl rfl ?_ ?_ <;> intro g_ hgro_ hw_); refine zP (x3) ?_; refine Q7 ?_; (refine AR.step2M (i := 5) (j := 8) rfl (by kernel_rfl) rfl rfl ?_ ?_ <;> intro g_ hgro_ hw_); refine Q149 ?_; (refine AR.step3M (i := 6) (j := 7) (m := 8) rfl (by kernel_rfl) rfl rfl rfl ?_ ?_ ?_ <;> intro g_ hgro_ hw_); refine Q77 ?_; (refine AR.step2M (i := 7) (j := 8) rfl (by kernel_rfl) rfl rfl ?_ ?_ <;> intro g_ hgro_ hw_); refine Q49 ?_; exact AR.perm (by kernel_rfl) hJ_2; refine Q90 ?_; exact AR.perm (by kernel_rfl) hJ_4; refine Q77 ?_; (refine AR.step2M (i := 6) (j := 8) rfl (by kernel_rfl) rfl rfl ?_ ?_ <;> intro g_ hgro_ hw_); refine Q18 ?_; refine AR.meet hJ_2 (by kernel_rfl) (fun g_ => weak rfl ?_ ?_ rfl); exact Q246; exact Q97; exact Q282; exact Q271; refine Q9 ?_; refine Q87 ?_; intro g_ hgro_ hw_; refine Q146 ?_; exact Q8; exact Q243; refine Q9 ?_; refine Q7 ?_; refine AR.step1M (i := 3) rfl (by kernel_rfl) rfl ?_; intro g_ hgro_ hw_; refine zA (n2) ?_; refine Q40 ?_; refine AR.meet hJ_6 (by kernel_rfl) (fun g_ => weak rfl ?_ ?_ rfl); exact Q183; refine Q0 ?_; exact Q249; refine AR.step1M (i := 4) rfl (by kernel_rfl) rfl ?_; intro g_ hgro_ hw_; refine zP (x3) ?_; refine Q87 ?_; intro g_ hgro_ hw_; refine Q146 ?_; exact Q8; (refine AR.step2M (i := 6) (j := 7) rfl (by kernel_rfl) rfl rfl ?_ ?_ <;> intro g_ hgro_ hw_); refine Q18 ?_; refine AR.meet hJ_4 (by kernel_rfl) (fun g_ => weak rfl ?_ ?_ rfl); exact Q246; refine Q0 ?_; exact Q249; refine Q18 ?_; refine AR.meet hJ_3 (by kernel_rfl) (fun g_ => weak rfl ?_ ?_ rfl); exact Q246; refine Q0 ?_; exact Q249; (refine AR.step2L (i := 7) (j := 9) rfl (by kernel_rfl) rfl rfl (by kernel_rfl) ?_ ?_ <;> intro g_ hgro_ hwt2_); exact Q244; refine Q62 ?_; refine Q58 ?_; intro g_ hgro_ hwt2_; exact Q148; refine AR.step1M (i := 6) rfl (by kernel_rfl) rfl ?_; intro g_ hgro_ hw_; refine Q18 ?_; refine Q156 ?_; exact Q8; refine AR.step1M (i := 8) rfl (by kernel_rfl) rfl ?_; intro g_ hgro_ hw_; refine Q9 ?_; refine Q40 ?_; refine Q156 ?_; exact Q8; refine Q102 ?_; intro g_ hgro_ hwt2_; refine Q62 ?_; refine Q40 ?_; refine AR.meet hJ_0 (by kernel_rfl) (fun g_ => weak rfl ?_ ?_ rfl); exact Q273; refine Q0 ?_; exact Q249; refine Q60 ?_; intro g_ hgro_ hwt2_; refine Q133 ?_; refine zo ?_; refine Q317 ?_; show AOps .held _ _ _ [_, _, _] _ _; refine Q80 ?_; refine Q7 ?_; intro k_ hk_; refine nz ?_; apply AR.cut [3, 1, 0, 2, 4, 5, 6, 7, 8, 9]; intro hJ_0; apply AR.cut [3, 1, 0, 2, 4, 5, 6, 7, 8]; intro hJ_1; apply AR.cut [3, 1, 0, 2, 4, 5, 6, 7]; intro hJ_2; apply AR.cut [3, 1, 0, 2, 4, 5, 7, 8]; intro hJ_3; apply AR.cut [3, 1, 0, 2, 4, 5, 6, 8]; intro hJ_4; apply AR.cut [3, 1, 0, 2, 4, 5, 8]; intro hJ_5; apply AR.cut [3, 1, 0, 2, 8]; intro hJ_6; (refine AR.step2M (i := 2) (j := 8) rfl (by kernel_rfl) rfl rfl ?_ ?_ <;> intro g_ hgro_ hw_); refine zA (n1) ?_; refine Q7 ?_; (refine AR.step2M (i := 4) (j := 8) rfl (by kernel_rfl) rfl rfl ?_ ?_ <;> intro g_ hgro_ hw_); refine zP (x4) ?_; refine Q7 ?_; (refine AR.step2M (i := 5) (j := 8) rfl (by kernel_rfl) rfl rfl ?_ ?_ <;> intro g_ hgro_ hw_); refine Q149 ?_; (refine AR.step3M (i := 6) (j := 7) (m := 8) rfl (by kernel_rfl) rfl rfl rfl ?_ ?_ ?_ <;> intro g_ hgro_ hw_); refine Q77 ?_; (refine AR.step2M (i := 7) (j := 8) rfl (by kernel_rfl) rfl rfl ?_ ?_ <;> intro g_ hgro_ hw_); refine Q49 ?_; exact AR.perm (by kernel_rfl) hJ_2; refine Q90 ?_; exact AR.perm (by kernel_rfl) hJ_4; refine Q77 ?_; (refine AR.step2M (i := 6) (j := 8) rfl (by kernel_rfl) rfl rfl ?_ ?_ <;> intro g_ hgro_ hw_); refine Q18 ?_; refine AR.meet hJ_2 (by kernel_rfl) (fun g_ => weak rfl ?_ ?_ rfl); (iterate 28 refine ⟨.eq rfl rfl, ?_⟩); exact trivial; refine Q0 ?_; exact Q249; exact Q282; exact Q271; refine Q9 ?_; refine Q87 ?_; intro g_ hgro_ hw_; refine Q79 ?_; refine AR.meet hJ_5 (by kernel_rfl) (fun g_ => weak rfl ?_ ?_ rfl); (iterate 27 refine ⟨.eq rfl rfl, ?_⟩); exact trivial; refine Q0 ?_; exact Q97; exact Q243; refine Q9 ?_; refine Q255 ?_; intro g_ hgro_ hw_; refine zA (n1) ?_; refine Q40 ?_; refine AR.meet hJ_6 (by kernel_rfl) (fun g_ => weak rfl ?_ ?_ rfl); (iterate 25 refine ⟨.eq rfl rfl, ?_⟩); exact trivial; refine Q0 ?_; exact Q97; refine AR.step1M (i := 4) rfl (by kernel_rfl) rfl ?_; intro g_ hgro_ hw_; refine zP (x4) ?_; refine Q87 ?_; intro g_ hgro_ hw_; refine Q79 ?_; refine AR.meet hJ_5 (by kernel_rfl) (fun g_ => weak rfl ?_ ?_ rfl); (iterate 27 refine ⟨.eq rfl rfl, ?_⟩); exact trivial; refine Q0 ?_; exact Q97; (refine AR.step2M (i := 6) (j := 7) rfl (by kernel_rfl) rfl rfl ?_ ?_ <;> intro g_ hgro_ hw_); refine Q18 ?_; refine AR.meet hJ_4 (by kernel_rfl) (fun g_ => weak rfl ?_ ?_ rfl); (iterate 28 refine ⟨.eq rfl rfl, ?_⟩); exact trivial; refine Q0 ?_; exact Q97; refine Q18 ?_; refine AR.meet hJ_3 (by kernel_rfl) (fun g_ => weak rfl ?_ ?_ rfl); (iterate 28 refine ⟨.eq rfl rfl, ?_⟩); exact trivial; refine Q0 ?_; exact Q97; (refine AR.step2L (i := 7) (j := 9) rfl (by kernel_rfl) rfl rfl (by kernel_rfl) ?_ ?_ <;> intro g_ hgro_ hwt2_); exact Q244; refine Q62 ?_; refine Q58 ?_; intro g_ hgro_ hwt2_; exact Q148; refine AR.step1M (i := 6) rfl (by kernel_rfl) rfl ?_; intro g_ hgro_ hw_; refine Q18 ?_; refine AR.meet hJ_1 (by kernel_rfl) (fun g_ => weak rfl ?_ ?_ rfl); (iterate 29 refine ⟨.eq rfl rfl, ?_⟩); exact trivial; refine Q0 ?_; exact Q97; refine AR.step1M (i := 8) rfl (by kernel_rfl) rfl ?_; intro g_ hgro_ hw_; refine Q9 ?_; refine Q40 ?_; refine AR.meet hJ_1 (by kernel_rfl) (fun g_ => weak rfl ?_ ?_ rfl); (iterate 29 refine ⟨.eq rfl rfl, ?_⟩); exact trivial; refine Q0 ?_; exact Q97; refine Q102 ?_; intro g_ hgro_ hwt2_; refine Q62 ?_; refine Q40 ?_; refine AR.meet hJ_0 (by kernel_rfl) (fun g_ => weak rfl ?_ ?_ rfl); (iterate 29 refine ⟨.eq rfl rfl, ?_⟩); exact trivial; refine Q0 ?_; exact Q97; refine Q60 ?_; intro g_ hgro_ hwt2_; refine Q133 ?_; refine Q4 ?_; refine Q80 ?_; refine zP (x5) ?_; refine Q37 ?_; refine nz ?_; refine Q5 ?_; refine zo ?_; (with_reducible apply AW.keepR 14 28 [2,3,6,7,8,9,10,18,21,22]); exact rfl; refine Q223 ?_; refine Q317 ?_; show AOps .held _ _ _ [_, _, _] _ _; refine Q80 ?_; refine Q7 ?_; intro k_ hk_; refine nz ?_; apply AR.cut [3, 1, 0, 2, 4, 5, 6, 7, 8, 9]; intro hJ_0; apply AR.cut [3, 1, 0, 2, 4, 5, 6, 7, 8]; intro hJ_1; apply AR.cut [3, 1, 0, 2, 4, 5, 6, 7]; intro hJ_2; apply AR.cut [3, 1, 0, 2, 4, 5, 7, 8]; intro hJ_3; apply AR.cut [3, 1, 0, 2, 4, 5, 6, 8]; intro hJ_4; apply AR.cut [3, 1, 0, 2, 4, 5, 8]; intro hJ_5; apply AR.cut [3, 1, 0, 2, 8]; intro hJ_6; (refine AR.step2M (i := 2) (j := 8) rfl (by kernel_rfl) rfl rfl ?_ ?_ <;> intro g_ hgro_ hw_); refine zA (n3) ?_; refine Q7 ?_; (refine AR.step2M (i := 4) (j := 8) rfl (by kernel_rfl) rfl rfl ?_ ?_ <;> intro g_ hgro_ hw_); refine zP (x6) ?_; refine Q7 ?_; (refine AR.step2M (i := 5) (j := 8) rfl (by kernel_rfl) rfl rfl ?_ ?_ <;> intro g_ hgro_ hw_); refine Q149 ?_; (refine AR.step3M (i := 6) (j := 7) (m := 8) rfl (by kernel_rfl) rfl rfl rfl ?_ ?_ ?_ <;> intro g_ hgro_ hw_); refine Q77 ?_; (refine AR.step2M (i := 7) (j := 8) rfl (by kernel_rfl) rfl rfl ?_ ?_ <;> intro g_ hgro_ hw_); refine Q49 ?_; exact AR.perm (by kernel_rfl) hJ_2; refine Q90 ?_; exact AR.perm (by kernel_rfl) hJ_4; refine Q77 ?_; (refine AR.step2M (i := 6) (j := 8) rfl (by kernel_rfl) rfl rfl ?_ ?_ <;> intro g_ hgro_ hw_); refine Q18 ?_; refine AR.meet hJ_2 (by kernel_rfl) (fun g_ => weak rfl ?_ ?_ rfl); exact Q246; (iterate 2 refine Q0 ?_); exact Q249; exact Q282; exact Q271; refine Q9 ?_; refine Q87 ?_; intro g_ hgro_ hw_; refine Q146 ?_; exact Q97; exact Q243; refine Q9 ?_; refine Q255 ?_; intro g_ hgro_ hw_; refine zA (n3) ?_; refine Q40 ?_; refine AR.meet hJ_6 (by kernel_rfl) (fun g_ => weak rfl ?_ ?_ rfl); exact Q183; (iterate 2 refine Q0 ?_); exact Q97; refine AR.step1M (i := 4) rfl (by kernel_rfl) rfl ?_; intro g_ hgro_ hw_; refine zP (x6) ?_; refine Q87 ?_; intro g_ hgro_ hw_; refine Q146 ?_; exact Q97; (refine AR.step2M (i := 6) (j := 7) rfl (by kernel_rfl) rfl rfl ?_ ?_ <;> intro g_ hgro_ hw_); refine Q18 ?_; refine AR.meet hJ_4 (by kernel_rfl) (fun g_ => weak rfl ?_ ?_ rfl); exact Q246; (iterate 2 refine Q0 ?_); exact Q97; refine Q18 ?_; refine AR.meet hJ_3 (by kernel_rfl) (fun g_ => weak rfl ?_ ?_ rfl); exact Q246; (iterate 2 refine Q0 ?_); exact Q97; (refine AR.step2L (i := 7) (j := 9) rfl (by kernel_rfl) rfl rfl (by kernel_rfl) ?_ ?_ <;> intro g_ hgro_ hwt2_); exact Q244; refine Q62 ?_; refine Q58 ?_; intro g_ hgro_ hwt2_; exact Q148; refine AR.step1M (i := 6) rfl (by kernel_rfl) rfl ?_; intro g_ hgro_ hw_; refine Q18 ?_; refine Q156 ?_; exact Q97; refine AR.step1M (i := 8) rfl (by kernel_rfl) rfl ?_; intro g_ hgro_ hw_; refine Q9 ?_; refine Q40 ?_; refine Q156 ?_; exact Q97; refine Q102 ?_; intro g_ hgro_ hwt2_; refine Q62 ?_; refine Q40 ?_; refine AR.meet hJ_0 (by kernel_rfl) (fun g_ => weak rfl ?_ ?_ rfl); exact Q273; (iterate 2 refine Q0 ?_); exact Q97; refine Q60 ?_; intro g_ hgro_ hwt2_; refine Q133 ?_; refine Q4 ?_; refine Q41 ?_; refine Q62 ?_; refine zd ?_; refine AW.region ?_; refine zm ?_; refine za ?_; refine AOps.nil ?_; refine Q11 ?_; refine nz ?_; refine Q190 ?_; refine Q5 ?_)
      exact Q82
theorem rBreaking_fn (s : SpecM) (at' : List Int) (st : Nat) (bs : List BndM) (ps : List (List Int)) (gs : List GateM) (n : Nat) (hc : CirOk gs) (hL : ∀ p ∈ ps, LitOk s st bs p) (hV : VarOk s st bs) (hP : ∀ p ∈ ps, PermN n (litV 0 p.length (arF s.fields) st (vrF s.fields) bs p)) (hn : n ≤ 1000) (hg : gs.length + ps.length * (6 * n + 1) < 18000) :
    Fn Tryz.prog 16 [spc s, scp at' (st : Int), .pv (bnds bs), .pv (intss ps), crc gs] (.tup [crc (brkM gs (ps.map fun p => litV 0 p.length (arF s.fields) st (vrF s.fields) bs p)).1, litI (brkM gs (ps.map fun p => litV 0 p.length (arF s.fields) st (vrF s.fields) bs p)).2]) := by
  have hlit := fun p h => rLiterals_fn s at' st bs p (hL p h) hV
  obtain ⟨so, fs, pr, fa⟩ := s
  simp only at *
  generalize hlf : (fun p : List Int => litV 0 p.length (arF fs) st (vrF fs) bs p) = lf
  have hlf' : ∀ p, litV 0 p.length (arF fs) st (vrF fs) bs p = lf p := fun p => by rw [← hlf]
  simp only [hlf'] at hlit hP
  generalize hls : ps.map lf = ls
  have hll : ls.length = ps.length := by rw [← hls, List.length_map]
  have hbk := fun k hk => brk_ok hc (ls := ls) (n := n) (by rw [← hls]; intro l hl; obtain ⟨p, hp, rfl⟩ := List.mem_map.1 hl; exact hP p hp) hn (by rw [hll]; exact hg) k hk
  have hpsl : ps.length ≤ 18000 := by
    have := Nat.le_mul_of_pos_right ps.length (show 0 < 6 * n + 1 by omega)
    omega
  refine Fn.enter (n := 53) Tryz.func16 rfl rfl rfl rfl rfl (by decide) fun g hro_ hwt_ => ?_; (try refine nz ?_)
  (refine Q105 ?_; refine Q15 ?_; refine Q9 ?_; refine Q51 ?_; refine Q135 ?_)
  (refine nz ?_; apply AW.loopR [11, 10, 9, 6, 5, 2, 3] [3, 1, 0] (fun k : Nat => ([(13, litI k), (12, litI (brkM gs (ls.take k)).2)] : List (Nat × AV))) (fun k : Nat => ([(2, some (.box [.pv (gatesV (brkM gs (ls.take k)).1)]))] : List (Nat × Option Ob))) (fun k : Nat => k ≤ ps.length) (fun k : Nat => ps.length - k) (0); (conv => lhs; simp only [Nf.lpR, Nf.all, Nat.reduceBEq, reduceAdd, reduceSub]); (all_goals skip))
  · exact Nat.zero_le _
  · exact weak rfl (by (refine ⟨.intE (by first | with_reducible rfl | (first | rfl | (unfold brkM; rfl))), ?_⟩; refine ⟨.intE (by first | with_reducible rfl | (first | rfl | (unfold brkM; rfl))), ?_⟩; refine ⟨.intE (by first | with_reducible rfl | (first | rfl | (unfold brkM; rfl))), ?_⟩; (iterate 4 refine ⟨.eq rfl rfl, ?_⟩); refine ⟨.pvE (by first | with_reducible rfl | (first | rfl | (unfold brkM; rfl))), ?_⟩; refine ⟨.pvE (by first | with_reducible rfl | (first | rfl | (unfold brkM; rfl))), ?_⟩; exact trivial)) (by (refine ⟨.box _ rfl ?_, ?_⟩; refine ⟨.pvE (by first | with_reducible rfl | (first | rfl | (unfold brkM; rfl))), ?_⟩; exact trivial; refine ⟨.box _ rfl ?_, ?_⟩; refine ⟨.eq rfl rfl, ?_⟩; exact trivial; refine ⟨.box _ rfl ?_, ?_⟩; refine ⟨.pvE (by first | with_reducible rfl | (first | rfl | (unfold brkM; rfl))), ?_⟩; refine ⟨.intE (by first | with_reducible rfl | (first | rfl | (unfold brkM; rfl))), ?_⟩; exact trivial; refine ⟨.box _ rfl ?_, ?_⟩; refine ⟨.pvE (by first | with_reducible rfl | (first | rfl | (unfold brkM; rfl))), ?_⟩; refine ⟨.pvE (by first | with_reducible rfl | (first | rfl | (unfold brkM; rfl))), ?_⟩; (iterate 2 refine ⟨.eq rfl rfl, ?_⟩); (iterate 2 exact trivial))) rfl
  rintro k hk
  obtain ⟨c0, r0, l0, m0, _, _, _⟩ := hbk k (by omega)
  have hmul : k * (6 * n + 1) ≤ ps.length * (6 * n + 1) := Nat.mul_le_mul_right _ hk
  by_cases hlt : k < ps.length
  · have hmul2 : (k + 1) * (6 * n + 1) ≤ ps.length * (6 * n + 1) := Nat.mul_le_mul_right _ hlt
    rw [Nat.succ_mul] at hmul2
    have hsn := brk_snoc gs (ls := ls) (k := k) (by omega)
    have hlk : ls[k]'(by omega) = lf ps[k] := by subst hls; rw [List.getElem_map]
    rw [hlk] at hsn
    have hm := List.getElem_mem hlt
    have hPk := hP _ hm
    have hl1 := hlit _ hm
    have hpl := hPk.len
    generalize lf ps[k] = l at hsn hPk hl1 hpl
    have hof := ord24_fnO l.length (by omega)
    have hq := pred_lead c0 hPk hn (by omega)
    unfold brkS at hsn
    generalize brkM gs (ls.take k) = p at c0 r0 l0 m0 hsn hq ⊢
    obtain ⟨g0, rr⟩ := p
    simp only at c0 r0 l0 m0 hsn hq ⊢
    have hpx := rPredicate_fn g0 l (ordM l.length) c0 hPk.ok (by omega) (fun w hw => ord_mem.1 hw) (by rw [ord_len]; omega) (by rw [ord_len]; omega)
    generalize predM g0 l (ordM l.length) = q at hsn hq hpx
    obtain ⟨g1, r1⟩ := q
    obtain ⟨c1, s1, l1, m1, _, _, _⟩ := hq
    simp only at c1 s1 l1 m1 hsn hpx
    have q0 := (r0.mono l1).1
    have q0' := (r0.mono l1).2
    have q1 := s1.1
    have q1' := s1.2
    have hax := and_fn g1 rr r1 (by omega) (by omega) (by omega)
    generalize andG g1 rr r1 = a at hsn hax
    obtain ⟨g2, r2⟩ := a
    simp only at hsn hax
    (refine Q89 ?_; refine AW.regionM [0, 1, 2, 3, 4, 5, 6] [] rfl (by assumption) (by kernel_rfl) (by kernel_rfl) rfl ?_; show AOps .held _ _ _ [_, _, _, _, _, _, _] _ _; (iterate 2 refine Q41 ?_); (iterate 3 refine zm ?_); (focus ((with_reducible apply AOps.index_map); (iterate 7 exact rfl); rotate_left; omega)); refine zr ?_; refine Q7 ?_; intro k_ hk_; refine Q276 ?_; intro g_ hgro_ hw_; refine zP (hl1) ?_; refine Q7 ?_; refine AR.readsM [8] (by kernel_rfl) (by kernel_rfl) (by kernel_rfl) (by kernel_rfl) ?_; intro g_ hgro_; show AOps .held _ _ _ [_] _ _; refine za ?_; refine Q7 ?_; intro k_ hk_; refine nz ?_; refine Q33 ?_; refine zo ?_; refine AW.regionM [0, 1, 2, 3] [10] rfl (by assumption) (by kernel_rfl) (by kernel_rfl) rfl ?_; show AOps .held _ _ _ [_, _, _, _] _ _; refine Q80 ?_; refine zn ?_; refine Q7 ?_; intro k_ hk_; refine nz ?_; apply AR.cut [3, 2, 1, 0, 4, 5, 6, 7, 8, 9, 10]; intro hJ_0; apply AR.cut [3, 2, 1, 0, 4, 5, 6, 7, 8, 9]; intro hJ_1; apply AR.cut [3, 2, 1, 0, 4, 5, 6, 7, 8]; intro hJ_2; apply AR.cut [3, 2, 1, 0, 4, 5, 6, 8, 9]; intro hJ_3; apply AR.cut [3, 2, 1, 0, 4, 5, 6, 7, 9]; intro hJ_4; apply AR.cut [3, 2, 1, 0, 4, 5, 6, 9]; intro hJ_5; apply AR.cut [3, 2, 1, 0, 4, 9]; intro hJ_6; (refine AR.step2M (i := 4) (j := 9) rfl (by kernel_rfl) rfl rfl ?_ ?_ <;> intro g_ hgro_ hw_); (with_reducible apply AOps.calloD (hof)); exact lits_map (fun _ => ⟨_, rfl⟩) _; (repeat (first | exact .nil | (refine .cons rfl ?_ ?_; (first | exact .pv _ | exact .own _ _ _ _ rfl | exact .nil _ | exact .any _ | exact .rptr _ | (refine .aggL ?_; repeat (first | exact .nil | (refine .cons ?_ ?_; (first | exact .pv _ | exact .own _ _ _ _ rfl | exact .nil _)))))))); exact rfl; refine Q121 ?_; (refine AR.step2M (i := 5) (j := 9) rfl (by kernel_rfl) rfl rfl ?_ ?_ <;> intro g_ hgro_ hw_); refine Q167 ?_; refine zP (hpx) ?_; refine Q7 ?_; (refine AR.step2M (i := 6) (j := 9) rfl (by kernel_rfl) rfl rfl ?_ ?_ <;> intro g_ hgro_ hw_); refine Q149 ?_; (refine AR.step3M (i := 7) (j := 8) (m := 9) rfl (by kernel_rfl) rfl rfl rfl ?_ ?_ ?_ <;> intro g_ hgro_ hw_); refine Q77 ?_; (refine AR.step2M (i := 8) (j := 9) rfl (by kernel_rfl) rfl rfl ?_ ?_ <;> intro g_ hgro_ hw_); refine Q49 ?_; refine AR.gc [2, 3, 1, 0] rfl ?_; refine Q32 ?_; exact AR.perm (by kernel_rfl) hJ_2; refine Q90 ?_; refine AR.gc [5, 2, 3, 1, 0] rfl ?_; refine Q32 ?_; exact AR.perm (by kernel_rfl) hJ_4; refine Q77 ?_; (refine AR.step2M (i := 7) (j := 9) rfl (by kernel_rfl) rfl rfl ?_ ?_ <;> intro g_ hgro_ hw_); refine Q18 ?_; refine AR.meet hJ_2 (by kernel_rfl) (fun g_ => weak rfl ?_ ?_ rfl); (iterate 31 refine ⟨.eq rfl rfl, ?_⟩); exact trivial; refine Q0 ?_; exact Q21; refine Q90 ?_; refine AR.gc [5, 2, 3, 1, 0] rfl ?_; refine Q32 ?_; exact AR.perm (by kernel_rfl) hJ_3; refine Q90 ?_; refine AR.gc [5, 2, 3, 1, 0] rfl ?_; refine Q32 ?_; exact AR.perm (by kernel_rfl) hJ_5; refine Q9 ?_; refine Q199 ?_; intro g_ hgro_ hw_; refine Q79 ?_; refine AR.meet hJ_5 (by kernel_rfl) (fun g_ => weak rfl ?_ ?_ rfl); (iterate 30 refine ⟨.eq rfl rfl, ?_⟩); exact trivial; exact Q170; exact Q243; refine Q9 ?_; refine Q7 ?_; refine AR.step1M (i := 4) rfl (by kernel_rfl) rfl ?_; intro g_ hgro_ hw_; (with_reducible apply AOps.calloD (hof)); exact lits_map (fun _ => ⟨_, rfl⟩) _; (repeat (first | exact .nil | (refine .cons rfl ?_ ?_; (first | exact .pv _ | exact .own _ _ _ _ rfl | exact .nil _ | exact .any _ | exact .rptr _ | (refine .aggL ?_; repeat (first | exact .nil | (refine .cons ?_ ?_; (first | exact .pv _ | exact .own _ _ _ _ rfl | exact .nil _)))))))); exact rfl; refine nz ?_; refine Q40 ?_; refine AR.sw 4 5 (by assumption) (by kernel_rfl) (by kernel_rfl) ?_; refine Q261 ?_; refine AR.meet hJ_6 (by kernel_rfl) (fun g_ => weak rfl ?_ ?_ rfl); (iterate 28 refine ⟨.eq rfl rfl, ?_⟩); exact trivial; refine Q16 ?_; refine ⟨.row rfl, ?_⟩; refine Q0 ?_; exact Q21; refine AR.step1M (i := 5) rfl (by kernel_rfl) rfl ?_; intro g_ hgro_ hw_; refine Q167 ?_; refine zP (hpx) ?_; refine Q199 ?_; intro g_ hgro_ hw_; refine Q79 ?_; refine AR.meet hJ_5 (by kernel_rfl) (fun g_ => weak rfl ?_ ?_ rfl); (iterate 30 refine ⟨.eq rfl rfl, ?_⟩); exact trivial; exact Q170; (refine AR.step2M (i := 7) (j := 8) rfl (by kernel_rfl) rfl rfl ?_ ?_ <;> intro g_ hgro_ hw_); refine Q18 ?_; refine AR.meet hJ_4 (by kernel_rfl) (fun g_ => weak rfl ?_ ?_ rfl); (iterate 31 refine ⟨.eq rfl rfl, ?_⟩); exact trivial; exact Q170; refine Q18 ?_; refine AR.meet hJ_3 (by kernel_rfl) (fun g_ => weak rfl ?_ ?_ rfl); (iterate 31 refine ⟨.eq rfl rfl, ?_⟩); exact trivial; exact Q170; (refine AR.step2L (i := 8) (j := 10) rfl (by kernel_rfl) rfl rfl (by kernel_rfl) ?_ ?_ <;> intro g_ hgro_ hwt2_); exact Q244; refine Q292 ?_; refine Q123 ?_; intro g_ hgro_ hwt2_; exact Q148; refine AR.step1M (i := 7) rfl (by kernel_rfl) rfl ?_; intro g_ hgro_ hw_; refine Q18 ?_; refine AR.meet hJ_1 (by kernel_rfl) (fun g_ => weak rfl ?_ ?_ rfl); (iterate 32 refine ⟨.eq rfl rfl, ?_⟩); exact trivial; exact Q170; refine AR.step1M (i := 9) rfl (by kernel_rfl) rfl ?_; intro g_ hgro_ hw_; refine Q9 ?_; refine Q40 ?_; refine AR.meet hJ_1 (by kernel_rfl) (fun g_ => weak rfl ?_ ?_ rfl); (iterate 32 refine ⟨.eq rfl rfl, ?_⟩); exact trivial; exact Q170; refine Q60 ?_; intro g_ hgro_ hwt2_; refine Q62 ?_; refine Q40 ?_; refine AR.meet hJ_0 (by kernel_rfl) (fun g_ => weak rfl ?_ ?_ rfl); (iterate 32 refine ⟨.eq rfl rfl, ?_⟩); exact trivial; exact Q170; refine Q171 ?_; intro g_ hgro_ hwt2_; refine Q133 ?_; refine Q4 ?_; refine Q80 ?_; refine zP (hax) ?_; refine Q37 ?_; refine nz ?_; refine Q51 ?_; refine Q41 ?_; refine Q62 ?_; refine zd ?_; refine AW.region ?_; refine zm ?_; refine Q188 ?_)
    exact ⟨k + 1, by omega, by omega, weak rfl (by (refine ⟨.intE (by first | with_reducible rfl | (first | rfl | (rw [hsn]))), ?_⟩; refine ⟨.intE (by first | with_reducible rfl | (first | rfl | (rw [hsn]))), ?_⟩; refine ⟨.intE (by first | with_reducible rfl | (first | rfl | (rw [hsn]))), ?_⟩; (iterate 4 refine ⟨.eq rfl rfl, ?_⟩); refine ⟨.pvE (by first | with_reducible rfl | (first | rfl | (rw [hsn]))), ?_⟩; refine ⟨.pvE (by first | with_reducible rfl | (first | rfl | (rw [hsn]))), ?_⟩; exact trivial)) (by (refine ⟨.box _ rfl ?_, ?_⟩; refine ⟨.pvE (by first | with_reducible rfl | (first | rfl | (rw [hsn]))), ?_⟩; exact trivial; refine ⟨.box _ rfl ?_, ?_⟩; refine ⟨.eq rfl rfl, ?_⟩; exact trivial; refine ⟨.box _ rfl ?_, ?_⟩; refine ⟨.pvE (by first | with_reducible rfl | (first | rfl | (rw [hsn]))), ?_⟩; refine ⟨.intE (by first | with_reducible rfl | (first | rfl | (rw [hsn]))), ?_⟩; exact trivial; refine ⟨.box _ rfl ?_, ?_⟩; refine ⟨.pvE (by first | with_reducible rfl | (first | rfl | (rw [hsn]))), ?_⟩; refine ⟨.pvE (by first | with_reducible rfl | (first | rfl | (rw [hsn]))), ?_⟩; (iterate 2 refine ⟨.eq rfl rfl, ?_⟩); (iterate 2 exact trivial))) rfl⟩
  · obtain rfl : k = ps.length := by omega
    rw [← hll, List.take_length]
    (refine Q10 ?_; refine Q44 ?_; refine Q202 ?_; refine Q62 ?_; refine Q42 ?_)
    (apply ends_ret; (exact Res.two (.cell rfl rfl rfl rfl) (.tmp rfl rfl)); (refine Le.tupL ?_; refine LeL.cons ?_ ?_; refine Le.aggL ?_; refine LeL.cons ?_ ?_; (with_reducible exact Le.pv _); exact LeL.nil; refine LeL.cons ?_ ?_; refine Le.litI ?_; (rfl); exact LeL.nil))
end Go.Ab
/- Chapter 24: the program agrees with the reference. -/
namespace Go.Ab
open Go Go.Proofs
set_option maxRecDepth 100000
set_option maxHeartbeats 16000000
theorem vars_len (o o' : Int) (st : Nat) (fr : List (Int × Int)) (vr : Int → Bool) : (varsM o st fr vr).length = (varsM o' st fr vr).length := by
  unfold varsM
  rw [List.length_append, List.length_append, selV_len, selV_len]
abbrev lf24 (s : SpecM) (m : Nat) (bs : List BndM) (p : List Int) : List Int := litV 0 p.length (arF s.fields) m (vrF s.fields) bs p
theorem lf_perm {s : SpecM} {at' : List Int} {m n : Nat} {bs : List BndM} (h : MadeOk s at' m n bs) {p : List Int} (hp : p ∈ grpM s at' n bs) : PermN (varsM 0 m (freeL 0 bs) (vrF s.fields)).length (lf24 s m bs p) := by
  have hs := grp_mem.1 hp
  unfold lf24
  rw [hs.perm.len]
  exact lit_perm h.n1 h.bnd hs
attribute [local irreducible] AW AOps thenD inBlockD AR iterEnds roundEndsN inlEnds noGotoD grpM varsM freeL brkM litV leadM evalG predM permM ordM buildG
theorem lawMatch_fn (s : SpecM) (at' : List Int) (st : Int) (raw : List (List Int)) (P Q : Int) (rw_ : List Int) (order : Int) (vals : List Bool) (steps : List StepG) (hraw : ∀ r ∈ raw, ∀ x ∈ r, 0 ≤ x ∧ x ≤ 255) (hP : 0 ≤ P ∧ P ≤ 65535) (hQ : 0 ≤ Q ∧ Q ≤ 65535) (hr : ∀ x ∈ rw_, 0 ≤ x ∧ x ≤ 255) (ho : 0 ≤ order ∧ order ≤ 255) (hs : ∀ s ∈ steps, StB s) :
    Fn Tryz.prog 3 [caseA s at' st raw P Q, .pv (bytes24 rw_), litU order, .pv (bools vals), .pv (stepsV steps)] (litB true) := by
  by_cases b1 : 20 < (rw_.length : Int)
  · obtain ⟨so, fs, pr, fa⟩ := s
    refine Fn.enter (n := 161) Tryz.func3 rfl rfl rfl rfl rfl (by decide) fun g hro_ hwt_ => ?_; (try refine nz ?_)
    (refine Q228 ?_; refine zm ?_; refine Q198 ?_; refine zm ?_; refine Q151 ?_; refine Q216 ?_; refine zm ?_; refine Q57 ?_)
    (apply ends_ret; (exact Res.one (.tmp rfl rfl)); (refine Le.litB ?_; (rfl)))
  by_cases b2 : 50 < (vals.length : Int)
  · obtain ⟨so, fs, pr, fa⟩ := s
    refine Fn.enter (n := 161) Tryz.func3 rfl rfl rfl rfl rfl (by decide) fun g hro_ hwt_ => ?_; (try refine nz ?_)
    (refine Q228 ?_; refine Q225 ?_; refine zm ?_; refine Q198 ?_; refine Q216 ?_; refine zm ?_; refine Q57 ?_)
    (apply ends_ret; (exact Res.one (.tmp rfl rfl)); (refine Le.litB ?_; (rfl)))
  by_cases b3 : 20 < (steps.length : Int)
  · obtain ⟨so, fs, pr, fa⟩ := s
    refine Fn.enter (n := 161) Tryz.func3 rfl rfl rfl rfl rfl (by decide) fun g hro_ hwt_ => ?_; (try refine nz ?_)
    (refine Q228 ?_; (iterate 2 refine Q225 ?_); refine Q334 ?_; refine Q57 ?_)
    (apply ends_ret; (exact Res.one (.tmp rfl rfl)); (refine Le.litB ?_; (rfl)))
  have hm := made24_fn s at' st raw P Q hraw hP hQ
  have hpn := perm_n rw_ rw_.length (Nat.le_refl _)
  have hpf := permutation_fnO rw_ hr (by omega)
  have hbf := build_fn steps hs (by omega)
  have hbo := build_ok (l := steps) (fun s h => ⟨(hs s h).1.1, (hs s h).2.1.1, (hs s h).2.2.1⟩) (by omega) steps.length (Nat.le_refl _)
  rw [List.take_length] at hbo
  generalize permM rw_ rw_.length = perm at hpn hpf
  have hpl := hpn.len
  generalize buildG steps = bt at hbf hbo
  obtain ⟨gs, refs⟩ := bt
  obtain ⟨hc, _, hgl, _⟩ := hbo
  simp only at hc hgl hbf
  have hof := ord24_fnO perm.length (by omega)
  have hon : PermN rw_.length (ordM perm.length) := ⟨by rw [ord_len, hpl], ord_nodup _, fun w hw => by have := ord_mem.1 hw; omega⟩
  generalize ordM perm.length = part at hof hon
  have hppl := hon.len
  have q0 : 0 ≤ order % ((part.length : Int) + 1) := Int.emod_nonneg _ (by omega)
  have q1 : order % ((part.length : Int) + 1) < (part.length : Int) + 1 := Int.emod_lt_of_pos _ (by omega)
  have hor : ∀ w ∈ part.take (order % ((part.length : Int) + 1)).toNat, 1 ≤ w ∧ w ≤ (rw_.length : Int) := fun w hw => hon.rng w (List.mem_of_mem_take hw)
  have hol := List.length_take_le (order % ((part.length : Int) + 1)).toNat part
  have hq := pred_ok hc hpn.ok (by omega) _ (fun w hw => by rw [hpl]; exact hor w hw) (by omega)
  have hpf1 := pPredicate_fn gs perm _ hc hpn.ok (by omega) (fun w hw => by rw [hpl]; exact hor w hw) (by omega) (by omega)
  have hpf2 := rPredicate_fn gs perm _ hc hpn.ok (by omega) (fun w hw => by rw [hpl]; exact hor w hw) (by omega) (by omega)
  have hql := hq.len
  have hsf := cSame13_fn _ (by omega : (predM gs perm (part.take (order % ((part.length : Int) + 1)).toNat)).1.length ≤ 1000000)
  have hmt : ints (part.take (order % ((part.length : Int) + 1)).toNat) = PV.slice 1 ((part.map encI).take (order % ((part.length : Int) + 1)).toNat) := by show PV.slice 1 _ = _; rw [List.map_take]
  rw [hmt] at hpf1 hpf2
  clear hq hql
  generalize predM gs perm _ = pr at hpf1 hpf2 hsf
  obtain ⟨g1, r1⟩ := pr
  simp only at hpf1 hpf2 hsf
  have hl1 := leader_fn vals [perm] (fun x hx => by rw [List.mem_singleton] at hx; subst hx; exact ⟨hpn.ok, by omega⟩) (by simp)
  have hl2 := rLeader_fn vals [perm] (fun x hx => by rw [List.mem_singleton] at hx; subst hx; exact ⟨hpn.ok, by omega⟩) (by simp)
  generalize leadM vals [perm] = b at hl1 hl2
  rcases hm with hm | ⟨n, m, bs, p, q, hM⟩
  · obtain ⟨so, fs, pr, fa⟩ := s
    refine Fn.enter (n := 161) Tryz.func3 rfl rfl rfl rfl rfl (by decide) fun g hro_ hwt_ => ?_; (try refine nz ?_)
    (refine Q228 ?_; (iterate 2 refine Q225 ?_); refine Q184 ?_; refine zm ?_; (with_reducible apply AOps.calloD (hpf)); exact lits_map (fun _ => ⟨_, rfl⟩) _; (repeat (first | exact .nil | (refine .cons rfl ?_ ?_; (first | exact .pv _ | exact .own _ _ _ _ rfl | exact .nil _ | exact .any _ | exact .rptr _ | (refine .aggL ?_; repeat (first | exact .nil | (refine .cons ?_ ?_; (first | exact .pv _ | exact .own _ _ _ _ rfl | exact .nil _)))))))); exact rfl; refine Q324 ?_; refine AOps.len_own_map rfl rfl rfl rfl ?_; (with_reducible apply AOps.calloD (hof)); exact lits_map (fun _ => ⟨_, rfl⟩) _; (repeat (first | exact .nil | (refine .cons rfl ?_ ?_; (first | exact .pv _ | exact .own _ _ _ _ rfl | exact .nil _ | exact .any _ | exact .rptr _ | (refine .aggL ?_; repeat (first | exact .nil | (refine .cons ?_ ?_; (first | exact .pv _ | exact .own _ _ _ _ rfl | exact .nil _)))))))); exact rfl; refine Q324 ?_; refine zm ?_; refine AOps.convI rfl rfl rfl rfl rfl (by omega) ?_; refine Q259 ?_; refine zj ?_; refine AOps.remE rfl rfl rfl rfl rfl (by omega) ?_; (with_reducible apply AOps.slice_own); (iterate 7 exact rfl); omega; (first | omega | (simp only [List.length_map, List.length_append, List.length_cons, List.length_nil, List.length_drop, List.length_take, List.length_set, chunk_len]; omega)); refine Q114 ?_; (focus ((with_reducible apply AW.condD); exact rfl; exact rfl; all_goals intro hc_)); refine Q4 ?_; refine Q57 ?_; (all_goals skip); rotate_left; refine AW.skip ?_; refine Q157 ?_; refine Q41 ?_; refine zA (hm) ?_; refine AOps.move_tup rfl rfl rfl ?_; (iterate 5 refine AOps.extract rfl rfl rfl rfl ?_); (iterate 5 refine za ?_); refine zd ?_; refine Q30 ?_; refine zm ?_; refine AOps.not rfl rfl rfl ?_; refine Q216 ?_; refine zm ?_; refine Q57 ?_; (all_goals skip); rotate_left)
    · exact absurd rfl hc_
    · (apply ends_ret; (exact Res.one (.tmp rfl rfl)); (refine Le.litB ?_; (rfl)))
  obtain ⟨rfl, hok, hp, hq, hfew, hm⟩ := hM
  have kp := hok.lit (grp_mem.1 hp)
  have kq := hok.lit (grp_mem.1 hq)
  have pp := lf_perm hok hp
  have pq := lf_perm hok hq
  have hvo := hok.var
  rw [vars_len 1 0] at hfew
  have fL1 := literals_fn s at' m bs p kp
  have fL2 := rLiterals_fn s at' m bs p kp hvo
  have hLs : ∀ x ∈ [p, q], LitOk s m bs x := fun x hx => by
    rcases List.mem_cons.1 hx with rfl | hx
    · exact kp
    · rw [List.mem_singleton] at hx; subst hx; exact kq
  have hPs : ∀ x ∈ [p, q], PermN (varsM 0 m (freeL 0 bs) (vrF s.fields)).length (litV 0 x.length (arF s.fields) m (vrF s.fields) bs x) := fun x hx => by
    rcases List.mem_cons.1 hx with rfl | hx
    · exact pp
    · rw [List.mem_singleton] at hx; subst hx; exact pq
  have fB1 := breaking_fn s at' m bs [p, q] gs (varsM 0 m (freeL 0 bs) (vrF s.fields)).length hc hLs hPs (by omega) (by simp only [List.length_cons, List.length_nil]; omega)
  have fB2 := rBreaking_fn s at' m bs [p, q] gs (varsM 0 m (freeL 0 bs) (vrF s.fields)).length hc hLs hvo hPs (by omega) (by simp only [List.length_cons, List.length_nil]; omega)
  simp only [List.map_cons, List.map_nil] at fB1 fB2
  have hbk := brk_ok (gs := gs) hc (ls := [lf24 s m bs p, lf24 s m bs q]) (n := (varsM 0 m (freeL 0 bs) (vrF s.fields)).length) (fun x hx => by
    rcases List.mem_cons.1 hx with rfl | hx
    · exact pp
    · rw [List.mem_singleton] at hx; subst hx; exact pq) (by omega) (by simp only [List.length_cons, List.length_nil]; omega) 2 (Nat.le_refl 2)
  rw [show ([lf24 s m bs p, lf24 s m bs q] : List (List Int)).take 2 = [lf24 s m bs p, lf24 s m bs q] from rfl] at hbk
  have hblen := hbk.len
  unfold lf24 at hbk hblen pp
  have hppl := pp.len
  generalize litV 0 p.length (arF s.fields) m (vrF s.fields) bs p = lp at fL1 fL2 fB1 fB2 hbk hblen hppl
  generalize litV 0 q.length (arF s.fields) m (vrF s.fields) bs q = lq at fB1 fB2 hbk hblen
  generalize brkM gs [lp, lq] = br at fB1 fB2 hblen
  obtain ⟨g2, r2⟩ := br
  simp only at fB1 fB2 hblen
  clear hbk
  have fS1 := same11_fn lp lp (by omega)
  rw [decide_eq_true rfl] at fS1
  have fS2 := cSame13_fn g2 (by omega)
  clear pp pq kp kq hp hq hvo hLs hPs hok
  obtain ⟨so, fs, pr, fa⟩ := s
  refine Fn.enter (n := 161) Tryz.func3 rfl rfl rfl rfl rfl (by decide) fun g hro_ hwt_ => ?_; (try refine nz ?_)
  (refine Q228 ?_; (iterate 2 refine Q225 ?_); refine Q184 ?_; refine zm ?_; (with_reducible apply AOps.calloD (hpf)); exact lits_map (fun _ => ⟨_, rfl⟩) _; (repeat (first | exact .nil | (refine .cons rfl ?_ ?_; (first | exact .pv _ | exact .own _ _ _ _ rfl | exact .nil _ | exact .any _ | exact .rptr _ | (refine .aggL ?_; repeat (first | exact .nil | (refine .cons ?_ ?_; (first | exact .pv _ | exact .own _ _ _ _ rfl | exact .nil _)))))))); exact rfl; refine Q324 ?_; refine AOps.len_own_map rfl rfl rfl rfl ?_; (with_reducible apply AOps.calloD (hof)); exact lits_map (fun _ => ⟨_, rfl⟩) _; (repeat (first | exact .nil | (refine .cons rfl ?_ ?_; (first | exact .pv _ | exact .own _ _ _ _ rfl | exact .nil _ | exact .any _ | exact .rptr _ | (refine .aggL ?_; repeat (first | exact .nil | (refine .cons ?_ ?_; (first | exact .pv _ | exact .own _ _ _ _ rfl | exact .nil _)))))))); exact rfl; refine Q324 ?_; refine zm ?_; refine AOps.convI rfl rfl rfl rfl rfl (by omega) ?_; refine Q259 ?_; refine zj ?_; refine AOps.remE rfl rfl rfl rfl rfl (by omega) ?_; (with_reducible apply AOps.slice_own); (iterate 7 exact rfl); omega; (first | omega | (simp only [List.length_map, List.length_append, List.length_cons, List.length_nil, List.length_drop, List.length_take, List.length_set, chunk_len]; omega)); refine Q114 ?_; (focus ((with_reducible apply AW.condD); exact rfl; exact rfl; all_goals intro hc_)); refine Q4 ?_; refine Q57 ?_; (all_goals skip); rotate_left; refine AW.skip ?_; refine Q157 ?_; refine Q41 ?_; refine zP (hm) ?_; refine AOps.move_tup rfl rfl rfl ?_; (iterate 5 refine AOps.extract rfl rfl rfl rfl ?_); (iterate 5 refine za ?_); refine zd ?_; refine Q30 ?_; refine zm ?_; refine Q267 ?_; refine Q157 ?_; refine AOps.fieldAddrN 35 0 0 rfl rfl rfl rfl ?_; (with_reducible apply AOps.load_bs); (iterate 3 exact rfl); (repeat' first | exact Sub.nil | apply Sub.take | apply Sub.skip); (iterate 3 exact rfl); refine AOps.fieldAddrN 35 1 4 rfl rfl rfl rfl ?_; (with_reducible apply AOps.load_bs); (iterate 3 exact rfl); (repeat' first | exact Sub.nil | apply Sub.take | apply Sub.skip); (iterate 3 exact rfl); (iterate 3 refine zm ?_); refine Q100 ?_; refine Q41 ?_; refine Q167 ?_; refine zP (fB1) ?_; refine Q37 ?_; refine nz ?_; refine Q51 ?_; refine AOps.fieldAddrN 35 0 0 rfl rfl rfl rfl ?_; (with_reducible apply AOps.load_bs); (iterate 3 exact rfl); (repeat' first | exact Sub.nil | apply Sub.take | apply Sub.skip); (iterate 3 exact rfl); refine AOps.fieldAddrN 35 1 4 rfl rfl rfl rfl ?_; (with_reducible apply AOps.load_bs); (iterate 3 exact rfl); (repeat' first | exact Sub.nil | apply Sub.take | apply Sub.skip); (iterate 3 exact rfl); (iterate 3 refine zm ?_); refine Q100 ?_; refine Q41 ?_; refine Q167 ?_; refine zP (fB2) ?_; refine Q37 ?_; refine nz ?_; refine Q5 ?_; refine zo ?_; refine AW.regionM [0, 1, 2, 3, 4, 5, 6, 7, 9, 10, 11, 12, 13, 14] [] rfl (by assumption) (by kernel_rfl) (by kernel_rfl) rfl ?_; show AOps .held _ _ _ [_, _, _, _, _, _, _, _, _, _, _, _, _, _] _ _; (iterate 2 refine zm ?_); refine zl ?_; refine AOps.fieldAddrN 35 0 0 rfl rfl rfl rfl ?_; refine zl ?_; (with_reducible apply AOps.load_bs); (iterate 3 exact rfl); (repeat' first | exact Sub.nil | apply Sub.take | apply Sub.skip); (iterate 3 exact rfl); refine zl ?_; refine AOps.fieldAddrN 35 1 4 rfl rfl rfl rfl ?_; refine zl ?_; (with_reducible apply AOps.load_bs); (iterate 3 exact rfl); (repeat' first | exact Sub.nil | apply Sub.take | apply Sub.skip); (iterate 3 exact rfl); refine Q92 ?_; refine zm ?_; refine zl ?_; refine AOps.fieldAddrN 35 0 0 rfl rfl rfl rfl ?_; refine zl ?_; (with_reducible apply AOps.load_bs); (iterate 3 exact rfl); (repeat' first | exact Sub.nil | apply Sub.take | apply Sub.skip); (iterate 3 exact rfl); refine zl ?_; refine AOps.fieldAddrN 35 1 4 rfl rfl rfl rfl ?_; refine zl ?_; (with_reducible apply AOps.load_bs); (iterate 3 exact rfl); (repeat' first | exact Sub.nil | apply Sub.take | apply Sub.skip); (iterate 3 exact rfl); refine Q92 ?_; refine zm ?_; refine Q7 ?_; intro k_ hk_; refine nz ?_; refine AR.step1M (i := 8) rfl (by kernel_rfl) rfl ?_; intro g_ hgro_ hw_; refine zl ?_; refine zP (fL1) ?_; refine Q7 ?_; refine AR.step1M (i := 15) rfl (by kernel_rfl) rfl ?_; intro g_ hgro_ hw_; refine zl ?_; refine zP (fL2) ?_; refine Q7 ?_; refine AR.step1M (i := 16) rfl (by kernel_rfl) rfl ?_; intro g_ hgro_ hw_; refine zl ?_; refine zA (fS1) ?_; refine Q7 ?_; refine AR.readsM [17, 18, 19, 20] (by kernel_rfl) (by kernel_rfl) (by kernel_rfl) (by kernel_rfl) ?_; intro g_ hgro_; show AOps .held _ _ _ [_, _, _, _] _ _; refine Q327 ?_; refine zl ?_; refine Q41 ?_; refine zl ?_; refine Q41 ?_; refine Q7 ?_; intro k_ hk_; refine AR.step1M (i := 21) rfl (by kernel_rfl) rfl ?_; intro g_ hgro_ hw_; refine zl ?_; refine zA (fS2) ?_; refine Q7 ?_; refine AR.readsM [22, 23, 24, 25, 26, 27, 28] (by kernel_rfl) (by kernel_rfl) (by kernel_rfl) (by kernel_rfl) ?_; intro g_ hgro_; show AOps .held _ _ _ [_, _, _, _, _, _, _] _ _; refine Q327 ?_; refine Q92 ?_; refine zm ?_; refine zl ?_; refine Q241 ?_; refine za ?_; refine Q7 ?_; intro k_ hk_; refine nz ?_; refine Q33 ?_; refine AW.ret ?_; (all_goals skip); rotate_left)
  · exact absurd rfl hc_
  · (apply ends_ret; (exact Res.one (.tmp rfl rfl)); (refine Le.litB ?_; (rfl)))
end Go.Ab
namespace Go.Proofs.YtcklfjkaadfjjaaGreat.Law1
open Go Go.Ab Go.ChangeShapes Go.WideShapes Go.ChangeAt Go.RowKit
set_option linter.unusedVariables false
theorem own : ownKnob Tryz.prog.godebug = none := by kernel_rfl
theorem laidOut : laidOutB Tryz.prog = true := by kernel_rfl
theorem rdInts : Rd Tryz.prog 28 (fun l : List Int => [ints l]) (fun _ => True) :=
  Rd.map (Rd.slice (e := 3) (k := 1) (by' := 8) Tryz.underlying28 (by kernel_rfl) (by decide) (by kernel_rfl) (by decide) (fun _ => rfl) (Rd.int Tryz.underlying3)) id (fun _ => rfl) (fun _ _ => trivial)
theorem rdSort : Rd Tryz.prog 69 encSo (fun _ => True) :=
  Rd.map (Rd.struct (n := 2) Tryz.underlying69 (by kernel_rfl) (RdF.cons (k := 1) (n := 1) rfl (by kernel_rfl) (Rd.string Tryz.underlying9) (RdF.cons (k := 1) (n := 0) rfl (by kernel_rfl) (Rd.bool Tryz.underlying4) RdF.nil))) (fun p => ((p.1, p.2.1) : SortM)) (fun p => rfl) (fun _ _ => trivial)
theorem rdField : Rd Tryz.prog 71 encF (fun _ => True) :=
  Rd.map (Rd.struct (n := 3) Tryz.underlying71 (by kernel_rfl) (RdF.cons (k := 1) (n := 2) rfl (by kernel_rfl) (Rd.string Tryz.underlying9) (RdF.cons (k := 1) (n := 1) rfl (by kernel_rfl) rdInts (RdF.cons (k := 1) (n := 0) rfl (by kernel_rfl) (Rd.bool Tryz.underlying4) RdF.nil)))) (fun p => (⟨p.1, p.2.1, p.2.2.1⟩ : FieldM)) (fun p => rfl) (fun _ _ => trivial)
def encS (s : SpecM) : List PV := [.slice 2 (s.sorts.map encSo), .slice 3 (s.fields.map encF), .lit (.slice s.preds.a s.preds.l s.preds.c), .lit (.slice s.facts.a s.facts.l s.facts.c)]
theorem rdSpec : Rd Tryz.prog 27 encS (fun _ => True) :=
  Rd.map (Rd.struct (n := 4) Tryz.underlying27 (by kernel_rfl) (RdF.cons (k := 1) (n := 3) rfl (by kernel_rfl) (Rd.slice (e := 69) (k := 2) (by' := 24) Tryz.underlying22 (by kernel_rfl) (by decide) (by kernel_rfl) (by decide) (fun _ => rfl) rdSort) (RdF.cons (k := 1) (n := 2) rfl (by kernel_rfl) (Rd.slice (e := 71) (k := 3) (by' := 48) Tryz.underlying23 (by kernel_rfl) (by decide) (by kernel_rfl) (by decide) (fun _ => rfl) rdField) (RdF.cons (k := 1) (n := 1) rfl (by kernel_rfl) (Rd.raw Tryz.underlying24) (RdF.cons (k := 1) (n := 0) rfl (by kernel_rfl) (Rd.raw Tryz.underlying25) RdF.nil)))))
    (fun p => (⟨p.1, p.2.1, ⟨p.2.2.1.1, p.2.2.1.2.1, p.2.2.1.2.2⟩, ⟨p.2.2.2.1.1, p.2.2.2.1.2.1, p.2.2.2.1.2.2⟩⟩ : SpecM)) (fun p => rfl) (fun _ _ => trivial)
theorem rdScope : Rd Tryz.prog 30 (fun p : List Int × Int => [ints p.1, .lit (.int .i64 p.2)]) (fun _ => True) :=
  Rd.map (Rd.struct (n := 2) Tryz.underlying30 (by kernel_rfl) (RdF.cons (k := 1) (n := 1) rfl (by kernel_rfl) rdInts (RdF.cons (k := 1) (n := 0) rfl (by kernel_rfl) (Rd.int Tryz.underlying3) RdF.nil))) (fun p => (p.1, p.2.1)) (fun p => rfl) (fun _ _ => trivial)
theorem wfR_u8 {n : Int} (h : (Lit.int .u8 n).wf = true) : 0 ≤ n ∧ n ≤ 255 := by
  have e1 : IntKind.u8.min = 0 := rfl
  have e2 : IntKind.u8.max = 255 := rfl
  simp [Lit.wf, e1, e2] at h
  omega
theorem wfR_u16 {n : Int} (h : (Lit.int .u16 n).wf = true) : 0 ≤ n ∧ n ≤ 65535 := by
  have e1 : IntKind.u16.min = 0 := rfl
  have e2 : IntKind.u16.max = 65535 := rfl
  simp [Lit.wf, e1, e2] at h
  omega
theorem rdU8s : Rd Tryz.prog 36 (fun l : List Int => encUs l) (fun l => ∀ x ∈ l, 0 ≤ x ∧ x ≤ 255) :=
  Rd.map (Rd.slice (e := 5) (k := 1) (by' := 1) Tryz.underlying36 (by kernel_rfl) (by decide) (by kernel_rfl) (by decide) (fun _ => rfl) (Rd.int Tryz.underlying5)) id (fun _ => rfl) (fun _ h x hx => wfR_u8 (h.2 x hx))
theorem rdRaws : Rd Tryz.prog 32 (fun l : List (List Int) => [raws l]) (fun l => ∀ r ∈ l, ∀ x ∈ r, 0 ≤ x ∧ x ≤ 255) :=
  Rd.map (Rd.slice (e := 36) (k := 1) (by' := 24) Tryz.underlying32 (by kernel_rfl) (by decide) (by kernel_rfl) (by decide) (fun _ => rfl) rdU8s) id (fun _ => rfl) (fun _ h => h.2)
def encCase (p : SpecM × (List Int × Int) × List (List Int) × Int × Int) : List PV := [.slice 2 (p.1.sorts.map encSo), .slice 3 (p.1.fields.map encF), .lit (.slice p.1.preds.a p.1.preds.l p.1.preds.c), .lit (.slice p.1.facts.a p.1.facts.l p.1.facts.c), ints p.2.1.1, .lit (.int .i64 p.2.1.2), raws p.2.2.1, .lit (.int .u16 p.2.2.2.1), .lit (.int .u16 p.2.2.2.2)]
theorem rdCase : Rd Tryz.prog 35 encCase (fun p => (∀ r ∈ p.2.2.1, ∀ x ∈ r, 0 ≤ x ∧ x ≤ 255) ∧ (0 ≤ p.2.2.2.1 ∧ p.2.2.2.1 ≤ 65535) ∧ (0 ≤ p.2.2.2.2 ∧ p.2.2.2.2 ≤ 65535)) :=
  Rd.map (Rd.struct (n := 9) Tryz.underlying35 (by kernel_rfl) (RdF.cons (k := 4) (n := 5) rfl (by kernel_rfl) rdSpec (RdF.cons (k := 2) (n := 3) rfl (by kernel_rfl) rdScope (RdF.cons (k := 1) (n := 2) rfl (by kernel_rfl) rdRaws (RdF.cons (k := 1) (n := 1) rfl (by kernel_rfl) (Rd.int Tryz.underlying33) (RdF.cons (k := 1) (n := 0) rfl (by kernel_rfl) (Rd.int Tryz.underlying33) RdF.nil))))))
    (fun p => (p.1, p.2.1, p.2.2.1, p.2.2.2.1, p.2.2.2.2.1)) (fun p => rfl) (fun _ h => ⟨h.2.2.1, wfR_u16 h.2.2.2.1, wfR_u16 h.2.2.2.2.1⟩)
theorem rdBytes : Rd Tryz.prog 36 (fun l : List Int => encUs l) (fun l => ∀ x ∈ l, 0 ≤ x ∧ x ≤ 255) :=
  Rd.map (Rd.slice (e := 5) (k := 1) (by' := 1) Tryz.underlying36 (by kernel_rfl) (by decide) (by kernel_rfl) (by decide) (fun _ => rfl) (Rd.int Tryz.underlying5)) id (fun _ => rfl) (fun _ h x hx => wf_u8 (h.2 x hx))
theorem rdBools : Rd Tryz.prog 37 (fun l : List Bool => [bools l]) (fun _ => True) :=
  Rd.map (Rd.slice (e := 4) (k := 1) (by' := 1) Tryz.underlying37 (by kernel_rfl) (by decide) (by kernel_rfl) (by decide) (fun _ => rfl) (Rd.bool Tryz.underlying4)) id (fun _ => rfl) (fun _ _ => trivial)
theorem rdGStep : Rd Tryz.prog 77 Go.Ab.encSt StB :=
  Rd.map (Rd.struct (n := 3) Tryz.underlying77 (by kernel_rfl) (RdF.cons (k := 1) (n := 2) rfl (by kernel_rfl) (Rd.int Tryz.underlying5) (RdF.cons (k := 1) (n := 1) rfl (by kernel_rfl) (Rd.int Tryz.underlying5) (RdF.cons (k := 1) (n := 0) rfl (by kernel_rfl) (Rd.int Tryz.underlying5) RdF.nil)))) (fun p => (⟨p.1, p.2.1, p.2.2.1⟩ : StepG)) (fun p => rfl) (fun _ h => ⟨wf_u8 h.1, wf_u8 h.2.1, wf_u8 h.2.2.1⟩)
theorem rdGSteps : Rd Tryz.prog 38 (fun l : List StepG => [stepsV l]) (fun l => ∀ s ∈ l, StB s) :=
  Rd.map (Rd.slice (e := 77) (k := 3) (by' := 3) Tryz.underlying38 (by kernel_rfl) (by decide) (by kernel_rfl) (by decide) (fun _ => rfl) rdGStep) id (fun _ => rfl) (fun _ h => h.2)
theorem wfB_u8 {n : Int} (h : (Lit.int .u8 n).wf = true) : 0 ≤ n ∧ n ≤ 255 := by
  have e1 : IntKind.u8.min = 0 := rfl
  have e2 : IntKind.u8.max = 255 := rfl
  simp [Lit.wf, e1, e2] at h
  omega
theorem ra_true {N : Nat → Prop} {w : World} {v : Value} (h : RA (pcx N) w v (litB true)) : v = .bool true := by
  cases h with
  | pv h => cases h; rfl
set_option maxRecDepth 100000 in
theorem lifted (os : Os) (started : os.Started) (H : Type) (enc : TypeId × Value → H) :
    ReturnsInHanded {} Tryz.checked os 3 .any (Rows.symbreakMatchesReferenceSpec.pre6 enc Tryz.prog Tryz.f3 Rows.symbreakMatchesReferenceRow.domain false) (Rows.symbreakMatchesReferenceSpec.post enc Tryz.prog Tryz.f3 false true false false) := by
  refine returnsInHanded_of_change_sized (C := Tryz.checked) own started (by kernel_rfl) Tryz.func3
    (ChangeSpec.witness6 (enc := enc) (C := Tryz.checked) false ⟨#[], #[.agg #[.slice none 0 0, .slice none 0 0, .slice none 0 0, .slice none 0 0, .slice none 0 0, .int .i64 0, .slice none 0 0, .int .u16 0, .int .u16 0], .slice none 0 0, .int .u8 0, .slice none 0 0, .slice none 0 0], []⟩ 8 (by kernel_rfl) (by kernel_rfl) (by kernel_rfl) (by kernel_rfl)) ?_
  intro W base args ds gs before hval0 hW hcnd hsz _
  have hval : ∀ (j : Nat) t v, Tryz.f3.params[j]? = some t → args[j]? = some v → Value.okWide Tryz.prog W .any base t v := hval0
  have hW' := hW
  obtain ⟨p, q, hA0, hV, rfl, hfz, hnd⟩ := hW
  have hA : DataW.TrodAll enc Tryz.prog W 0 (fun _ => true) true Tryz.f3.params.toList args.toList ds p := hA0
  rw [Tryz.params3] at hA hval
  obtain ⟨v0, vs0, d0, ds0, p0, q0, hargs, rfl, rfl, h0, r0⟩ := trodAll_cons hA
  obtain ⟨v1, vs1, d1, ds1, p1, q1, rfl, rfl, rfl, h1, r1⟩ := trodAll_cons r0
  obtain ⟨v2, vs2, d2, ds2, p2, q2, rfl, rfl, rfl, h2, r2⟩ := trodAll_cons r1
  obtain ⟨v3, vs3, d3, ds3, p3, q3, rfl, rfl, rfl, h3, r3⟩ := trodAll_cons r2
  obtain ⟨v4, vs4, d4, ds4, p4, q4, rfl, rfl, rfl, h4, r4⟩ := trodAll_cons r3
  obtain ⟨rfl, rfl, rfl⟩ := trodAll_nil r4
  obtain rfl : args = #[v0, v1, v2, v3, v4] := by cases args; simp_all
  obtain ⟨rfl, rfl⟩ := trodVars_none hV
  have wt : ∀ (j : Nat) (t : TypeId) (d : DataW H), [35, 36, 5, 37, 38][j]? = some t → [d0, d1, d2, d3, d4][j]? = some d → ∀ n ∈ d.weights Tryz.prog t, n ≤ reachBytes := by
    intro j t d ht hd
    have hj : j < 5 := (List.getElem?_eq_some_iff.1 ht).1
    refine arg_weights hsz (j := j) ?_ ?_
    · rw [List.getElem?_append_left (by rw [Tryz.params3]; exact hj), Tryz.params3]; exact ht
    · rw [List.getElem?_append_left (by simpa using hj)]; exact hd
  obtain ⟨cs0, rfl⟩ := Ab.okWide_struct Tryz.underlying35 (hval 0 35 v0 rfl rfl)
  obtain ⟨a1, l1, c1, rfl⟩ := okWide_slice Tryz.underlying36 (hval 1 36 v1 rfl rfl)
  obtain ⟨a3, l3, c3, rfl⟩ := okWide_slice Tryz.underlying37 (hval 3 37 v3 rfl rfl)
  obtain ⟨a4, l4, c4, rfl⟩ := okWide_slice Tryz.underlying38 (hval 4 38 v4 rfl rfl)
  obtain ⟨⟨x0, ⟨y0, z0⟩, rw0, cp0, cq0⟩, s0, o0⟩ := arg_agg rdCase h0 (wt 0 35 d0 rfl rfl) rfl
  obtain ⟨x1, s1, o1⟩ := arg_one rdBytes h1 (wt 1 36 d1 rfl rfl) slice_cells
  obtain ⟨x2, rfl, e2, e2', o2⟩ := open_int Tryz.underlying5 (hval 2 5 v2 rfl rfl) h2
  have s2 : RA (pcx fun _ => True) W (.int .u8 x2) (.pv (.lit (.int .u8 x2))) := .pv (.lit _)
  obtain ⟨x3, s3, o3⟩ := arg_one rdBools h3 (wt 3 37 d3 rfl rfl) slice_cells
  obtain ⟨x4, s4, o4⟩ := arg_one rdGSteps h4 (wt 4 38 d4 rfl rfl) slice_cells
  have lt0 : ∀ x ∈ p0, x.block < W.heap.size := by obtain ⟨m, hm⟩ := h0; exact DataW.trod_lt m _ _ _ hm
  have lt1 : ∀ x ∈ p1, x.block < W.heap.size := by obtain ⟨m, hm⟩ := h1; exact DataW.trod_lt m _ _ _ hm
  have lt2 : ∀ x ∈ p2, x.block < W.heap.size := by obtain ⟨m, hm⟩ := h2; exact DataW.trod_lt m _ _ _ hm
  have lt3 : ∀ x ∈ p3, x.block < W.heap.size := by obtain ⟨m, hm⟩ := h3; exact DataW.trod_lt m _ _ _ hm
  have lt4 : ∀ x ∈ p4, x.block < W.heap.size := by obtain ⟨m, hm⟩ := h4; exact DataW.trod_lt m _ _ _ hm
  clear hA0 hval0
  refine ((lawMatch_fn x0 y0 z0 rw0 cp0 cq0 x1 x2 x3 x4 o0.1 o0.2.1 o0.2.2 o1 (wfB_u8 o2) o4).calls (fun _ => True) W _ (fun _ _ => trivial) rfl ?_).mono fun e W' ⟨v, he, hv, bel⟩ => ?_
  · intro j v av hj hav
    match j, hj, hav with
    | 0, hj, hav => cases hj; cases hav; exact s0
    | 1, hj, hav => cases hj; cases hav; exact s1
    | 2, hj, hav => cases hj; cases hav; exact s2
    | 3, hj, hav => cases hj; cases hav; exact s3
    | 4, hj, hav => cases hj; cases hav; exact s4
    | j + 5, hj, hav => simp at hav
  · obtain rfl := ra_true hv
    subst he
    exact ⟨_, rfl, _, _, _, [], _, [], hW', trodAll_mk1 (shut_bool Tryz.underlying4 _), (trodAll_cons_mk (Below.trod laidOut (by kernel_rfl) (of_decide_eq_true (by kernel_rfl)) h0 bel lt0) (trodAll_cons_mk (Below.trod laidOut (by kernel_rfl) (of_decide_eq_true (by kernel_rfl)) h1 bel lt1) (trodAll_cons_mk (Below.trod laidOut (by kernel_rfl) (of_decide_eq_true (by kernel_rfl)) h2 bel lt2) (trodAll_cons_mk (Below.trod laidOut (by kernel_rfl) (of_decide_eq_true (by kernel_rfl)) h3 bel lt3) (trodAll_cons_mk (Below.trod laidOut (by kernel_rfl) (of_decide_eq_true (by kernel_rfl)) h4 bel lt4) trodAll_mk0))))), rfl, bel.frame _, fun h => by cases h⟩
theorem over : Rows.symbreakMatchesReferenceRow.holds Tryz.pinned (OpenSpec.ofChange Rows.symbreakMatchesReferenceSpec) :=
  OpenClaim.holds_of_wide 3 Tryz.f3 rfl rfl rfl rfl rfl rfl rfl ⟨rfl, rfl, rfl, rfl, rfl⟩ rfl rfl rfl rfl rfl (by kernel_rfl) Tryz.func3 (by kernel_rfl)
    (of_decide_eq_true (by kernel_rfl)) (by unfold Func.isWrapper; first | (rw [if_pos (by decide +kernel)]; kernel_rfl) | (rw [if_neg (by decide +kernel)]; exact ⟨rfl, rfl⟩))
    (fun os started H enc _ => lifted os started H enc)
theorem proved : Rows.SymbreakMatchesReferenceSaid := over
#print axioms proved
end Go.Proofs.YtcklfjkaadfjjaaGreat.Law1
