/- The permutation of variables induced by the composition of two symmetries is the composition of the induced permutations, that of the identity is the identity, and every induced permutation contains each variable once. No conditions. -/
import Derived.Test.YtcklfjkaadfjjaaAoK17
import Derived.Test.YtcklfjkaadfjjaaAbL3
import Derived.Test.YtcklfjkaadfjjaaAoD7
import Derived.Test.YtcklfjkaadfjjaaAbL2
import Derived.Test.YtcklfjkaadfjjaaRows
import Derived.WalkKit
import Derived.ProofKit
import Derived.OpenShut
import Derived.ChangeOld
import Derived.Below
set_option linter.unusedSimpArgs false
set_option linter.unusedVariables false
namespace Go.Ab
open Go Go.Proofs
open Nat (reduceAdd reduceSub)
set_option maxRecDepth 20000
set_option maxHeartbeats 4000000
structure MadeOk (s : SpecM) (at' : List Int) (st n : Nat) (bs : List BndM) : Prop where
  fit : Fit s at'
  ns : (n : Int) = at'.sum
  n1 : 1 ≤ n
  n5 : n ≤ 5
  stb : 1 ≤ st ∧ st ≤ 4
  good : Good at' s.fields bs
  a4 : at'.length ≤ 4
  a5 : ∀ x ∈ at', x ≤ 5
theorem MadeOk.len {s : SpecM} {at' : List Int} {st n : Nat} {bs : List BndM} (h : MadeOk s at' st n bs) : bs.length = s.fields.length := h.good.len
theorem arF_at {fs : List FieldM} {i : Nat} (h : i < fs.length) : arF fs (i : Int) = fs[i].sorts.length := by
  unfold arF
  rw [show ((i : Int)).toNat = i by omega, getD_of h]
theorem MadeOk.full {s : SpecM} {at' : List Int} {st n : Nat} {bs : List BndM} (h : MadeOk s at' st n bs) {i : Nat} (hi : i < s.fields.length) : (1 ≤ s.fields[i].sorts.length ∧ s.fields[i].sorts.length ≤ 3) ∧ ∀ t ∈ (fullR at' s.fields[i].sorts).2, 0 ≤ t ∧ t < ((n ^ s.fields[i].sorts.length : Nat) : Int) := by
  have hf := relOk_iff.1 (full_ok (h.fit.cols _ (List.getElem_mem hi)) h.fit.sm h.fit.top)
  obtain ⟨⟨h1, h2, h3, h4⟩, h5, h6⟩ := hf
  have e : (fullR at' s.fields[i].sorts).1 = (s.fields[i].sorts.length : Int) := rfl
  rw [e] at h3 h4
  refine ⟨by omega, fun t ht => ?_⟩
  have := h6 t ht
  rw [e, ← h.ns, Int.toNat_natCast, ← Int.natCast_pow] at this
  exact this
theorem MadeOk.bnd {s : SpecM} {at' : List Int} {st n : Nat} {bs : List BndM} (h : MadeOk s at' st n bs) : BndOk n (arF s.fields) bs := by
  have key : ∀ (i : Nat) (hi : i < bs.length), RanksOk n (arF s.fields (i : Int)) bs[i].1.2 ∧ RanksOk n (arF s.fields (i : Int)) bs[i].2.2 := fun i hi => by
    have hi' : i < s.fields.length := by rw [← h.len]; exact hi
    obtain ⟨hr, _, hs⟩ := h.good.get i hi'
    have hf := (h.full hi').2
    rw [arF_at hi']
    exact ⟨⟨hr.low, fun t ht => hf t (hs t (hr.sub t ht))⟩, ⟨hr.high, fun t ht => hf t (hs t ht)⟩⟩
  exact ⟨fun i hi => (key i hi).1, fun i hi => (key i hi).2⟩
theorem pow_small {n a : Nat} (h1 : n ≤ 5) (h2 : a ≤ 3) : n ^ a ≤ 125 := by
  have h3 : n ^ a ≤ 5 ^ a := Nat.pow_le_pow_left h1 a
  have h4 : 5 ^ a ≤ 5 ^ 3 := Nat.pow_le_pow_right (by omega) h2
  omega
theorem MadeOk.rk {s : SpecM} {at' : List Int} {st n : Nat} {bs : List BndM} (h : MadeOk s at' st n bs) {i : Nat} (hi : i < bs.length) : (∀ t ∈ bs[i].1.2, 0 ≤ t ∧ t ≤ 125) ∧ ∀ t ∈ bs[i].2.2, 0 ≤ t ∧ t ≤ 125 := by
  have hb := h.bnd
  have hi' : i < s.fields.length := by rw [← h.len]; exact hi
  have hp := pow_small h.n5 (h.full hi').1.2
  have h1 := (hb.low i hi).rng
  have h2 := (hb.high i hi).rng
  rw [arF_at hi'] at h1 h2
  exact ⟨fun t ht => by have := h1 t ht; omega, fun t ht => by have := h2 t ht; omega⟩
theorem MadeOk.lit {s : SpecM} {at' : List Int} {st n : Nat} {bs : List BndM} (h : MadeOk s at' st n bs) {p : List Int} (hp : SymP n (srtF at') (fxF s.sorts at') (arF s.fields) bs p) : LitOk s st bs p := by
  have hln := hp.perm.len
  have hl := good_lens h.fit h.good
  have h1 := h.n1
  have h5 := h.n5
  refine ⟨h.stb, ⟨h.len, by omega⟩, fun x hx => ?_, fun x hx => ?_, fun t ht => ?_, fun f hf => ?_, by omega, ⟨srtF at', by rw [hln]; exact hp.perm⟩, ?_⟩
  · have := hl.2 x hx
    exact ⟨by omega, by omega, this.2.2⟩
  · obtain ⟨i, hi, rfl⟩ := List.getElem_of_mem hx
    exact (h.bnd.high i hi).inc
  · obtain ⟨k, hk, e, hm⟩ := freeL_mem (bs := bs) (i := 0) (p := t) ht
    have := (h.rk hk).2 t.2 (mem_diff.1 hm).1
    omega
  · obtain ⟨i, hi, rfl⟩ := List.getElem_of_mem hf
    exact (h.full hi).1
  · rw [hln]
    exact act_mem hp.perm h.n1 h.bnd hp.keep
def symX (n : Nat) (ar : Int → Nat) (p : List Int) (bs : List BndM) (i : Nat) : Bool := keepL n p (ar (i : Int)) (bs.getD i ((0, []), (0, []))).1.2 && keepL n p (ar (i : Int)) (bs.getD i ((0, []), (0, []))).2.2
def symB (n : Nat) (ar : Int → Nat) (p : List Int) (bs : List BndM) : Bool := (List.range bs.length).all (symX n ar p bs)
theorem sym_iff {n : Nat} {ar : Int → Nat} {p : List Int} {bs : List BndM} : symB n ar p bs = true ↔ keepB n ar p bs := by
  unfold symB keepB
  rw [List.all_eq_true]
  constructor
  · intro h i hi
    have := h i (List.mem_range.2 hi)
    unfold symX at this
    rw [getD_of hi, Bool.and_eq_true] at this
    exact this
  · intro h i hi
    have hi := List.mem_range.1 hi
    unfold symX
    rw [getD_of hi, Bool.and_eq_true]
    exact h i hi
def grpM (s : SpecM) (at' : List Int) (n : Nat) (bs : List BndM) : List (List Int) := (allM n (srtF at') n).filter fun p => fixB s.sorts at' p && symB n (arF s.fields) p bs
theorem grp_mem {s : SpecM} {at' : List Int} {n : Nat} {bs : List BndM} {p : List Int} : p ∈ grpM s at' n bs ↔ SymP n (srtF at') (fxF s.sorts at') (arF s.fields) bs p := by
  unfold grpM
  rw [List.mem_filter, all_perm, Bool.and_eq_true, sym_iff]
  constructor
  · rintro ⟨h1, h2, h3⟩
    refine ⟨h1, fun x hx hf => ?_, h3⟩
    unfold fixB at h2
    rw [List.all_eq_true] at h2
    have := h2 x (List.mem_range.2 (by rw [h1.len]; exact hx))
    unfold fixX at this
    rw [hf] at this
    simpa using this
  · rintro ⟨h1, h2, h3⟩
    refine ⟨h1, ?_, h3⟩
    unfold fixB
    rw [List.all_eq_true]
    intro x hx
    have hx := List.mem_range.1 hx
    rw [h1.len] at hx
    unfold fixX
    cases hf : fxF s.sorts at' (x : Int) with
    | true => have := h2 x hx hf; simpa using this
    | false => rfl
theorem eq_keep (x : RelM) (c : List Int) : decide (x = (x.1, c)) = decide (c = x.2) := by
  obtain ⟨a, b⟩ := x
  rw [decide_eq_decide]
  constructor
  · intro h; exact ((Prod.mk.injEq _ _ _ _).mp h).2.symm
  · rintro rfl; rfl
attribute [local irreducible] AW AOps thenD inBlockD AR iterEnds roundEndsN inlEnds noGotoD imgR canon keepL symX fixB allM
theorem symmetric_fn (s : SpecM) (at' : List Int) (st n : Nat) (bs : List BndM) (p : List Int) (h : MadeOk s at' st n bs) (hp : PermA n (srtF at') p) : Fn Try.prog 62 [scp at' (st : Int), .pv (bnds bs), .pv (ints p)] (litB (symB n (arF s.fields) p bs)) := by
  have hpl := hp.len
  have hnn := h.ns
  have h1 := h.n1
  have h5 := h.n5
  have hlen := h.len
  have hls := good_lens h.fit h.good
  have hv := valid11_fn at' (st : Int) p h.fit.sm h.a4 h.a5 h.fit.top (by rw [hpl]; exact hp) (by rw [hpl]; exact h.ns)
  have hsb : symB n (arF s.fields) p bs = (List.range bs.length).all (symX n (arF s.fields) p bs) := rfl
  rw [hsb]
  refine Fn.enter (n := 50) Try.func62 rfl rfl rfl rfl rfl (by decide) fun g hro_ hwt_ => ?_; (try refine nz ?_)
  (refine zq ?_; refine AOps.box rfl rfl rfl rfl ?_; refine nz ?_; refine za ?_; refine zd ?_; refine zo ?_; refine zq ?_; refine nz ?_; refine zL ?_; refine nz ?_; refine zm ?_; refine zA (hv) ?_; refine AOps.not rfl rfl rfl ?_; refine zd ?_; refine AW.cond_lf rfl rfl ?_; refine AW.skip ?_; refine thenD_n ?_; refine zo ?_; refine zq ?_; refine nz ?_; refine za ?_; refine zd ?_; refine AW.block ?_)
  (refine nz ?_; apply AW.loopR [3, 1, 2] [0] (fun k : Nat => ([(7, litI k)] : List (Nat × AV))) (fun k : Nat => ([] : List (Nat × Option Ob))) (fun k : Nat => k ≤ bs.length ∧ (List.range k).all (symX n (arF s.fields) p bs) = true) (fun k : Nat => bs.length - k) (0); (conv => lhs; simp only [Nf.lpR, Nf.all, Nat.reduceBEq, reduceAdd, reduceSub]); (all_goals skip))
  · exact ⟨Nat.zero_le _, rfl⟩
  · exact weak rfl (by (refine ⟨.eq rfl rfl, ?_⟩; (iterate 3 refine ⟨.eq rfl rfl, ?_⟩); exact trivial)) (by (refine ⟨.box _ rfl ?_, ?_⟩; (iterate 2 refine ⟨.eq rfl rfl, ?_⟩); (iterate 2 exact trivial))) rfl
  rintro k ⟨hk, hno⟩
  by_cases hlt : k < bs.length
  · have hlt' : k < s.fields.length := by omega
    have hra := rangeAll (symX n (arF s.fields) p bs) k
    have hrn := rangeNot (f := symX n (arF s.fields) p bs) hlt
    rw [hno, Bool.true_and] at hra
    have hfx : symX n (arF s.fields) p bs k = (keepL n p (arF s.fields (k : Int)) (bs.getD k ((0, []), (0, []))).1.2 && keepL n p (arF s.fields (k : Int)) (bs.getD k ((0, []), (0, []))).2.2) := by unfold symX; rfl
    rw [getD_of hlt, arF_at hlt'] at hfx
    obtain ⟨g1, g2, _⟩ := h.good.get k hlt'
    have g3 := g1.ar
    have hfu := (h.full hlt').1
    obtain ⟨t1, t2⟩ := h.rk hlt
    have hl2 := hls.2 _ (List.getElem_mem hlt)
    have r1 := rel11_fn at' (st : Int) p s.fields[k].sorts.length bs[k].1.2 (by rw [hpl]; exact hp) (by omega) (by omega) hfu.2 (fun t ht => by have := t1 t ht; omega) (by omega)
    have r2 := rel11_fn at' (st : Int) p s.fields[k].sorts.length bs[k].2.2 (by rw [hpl]; exact hp) (by omega) (by omega) hfu.2 (fun t ht => by have := t2 t ht; omega) (by omega)
    rw [← g2] at r1
    rw [← g2, ← g3] at r2
    rw [hpl] at r1 r2
    have q1 := rEqual_fn bs[k].1 (bs[k].1.1, canon (bs[k].1.2.map (imgR n p s.fields[k].sorts.length)))
    have q2 := rEqual_fn bs[k].2 (bs[k].2.1, canon (bs[k].2.2.map (imgR n p s.fields[k].sorts.length)))
    rw [eq_keep] at q1 q2
    have k1 : keepL n p s.fields[k].sorts.length bs[k].1.2 = decide (canon (bs[k].1.2.map (imgR n p s.fields[k].sorts.length)) = bs[k].1.2) := by unfold keepL; rfl
    have k2 : keepL n p s.fields[k].sorts.length bs[k].2.2 = decide (canon (bs[k].2.2.map (imgR n p s.fields[k].sorts.length)) = bs[k].2.2) := by unfold keepL; rfl
    rw [← k1] at q1
    rw [← k2] at q2
    generalize canon (bs[k].1.2.map _) = c1 at r1 q1
    generalize canon (bs[k].2.2.map _) = c2 at r2 q2
    cases e1 : keepL n p s.fields[k].sorts.length bs[k].1.2 with
    | true =>
      cases e2 : keepL n p s.fields[k].sorts.length bs[k].2.2 with
      | true =>
        rw [e1, e2] at hfx
        rw [e1] at q1
        rw [e2] at q2
        rw [hfx] at hra
        (refine zo ?_; refine zq ?_; (iterate 2 refine zm ?_); refine zn ?_; refine zs ?_; refine zd ?_; refine zc ?_; refine AW.skip ?_; refine thenD_n ?_; refine zo ?_; refine AW.block ?_; refine zo ?_; refine AW.regionM [0, 1, 2, 3, 4, 5, 6, 7, 8, 9, 10, 11] [] rfl (by assumption) (by kernel_rfl) (by kernel_rfl) rfl ?_; show AOps .held _ _ _ [_, _, _, _, _, _, _, _, _, _, _, _] _ _; (iterate 2 refine zm ?_); (focus ((with_reducible apply AOps.index_map); (iterate 7 exact rfl); rotate_left; omega)); refine AOps.fieldAddr_rN 109 0 0 2 rfl rfl rfl rfl ?_; refine nz ?_; refine AOps.load_rn rfl rfl rfl rfl ?_; refine nz ?_; refine zL ?_; refine nz ?_; (iterate 3 refine zm ?_); (focus ((with_reducible apply AOps.index_map); (iterate 7 exact rfl); rotate_left; omega)); refine AOps.fieldAddr_rN 109 0 0 2 rfl rfl rfl rfl ?_; refine nz ?_; refine AOps.load_rn rfl rfl rfl rfl ?_; refine nz ?_; refine AOps.nil ?_; refine onlyN_n ?_; intro k_ hk_; refine AR.step1M (i := 12) rfl (by kernel_rfl) rfl ?_; intro g_ hgro_ hw_; refine zP (r1) ?_; refine AOps.nil ?_; refine onlyN_n ?_; refine AR.step1M (i := 13) rfl (by kernel_rfl) rfl ?_; intro g_ hgro_ hw_; refine zA (q1) ?_; refine AOps.nil ?_; refine onlyN_n ?_; refine AR.readsM [14, 15, 16, 17, 18, 19, 20, 21, 22, 23, 24, 25, 26, 27] (by kernel_rfl) (by kernel_rfl) (by kernel_rfl) (by kernel_rfl) ?_; intro g_ hgro_; show AOps .held _ _ _ [_, _, _, _, _, _, _, _, _, _, _, _, _, _] _ _; refine AOps.not rfl rfl rfl ?_; refine zm ?_; refine zl ?_; refine zm ?_; refine zl ?_; refine zm ?_; refine zl ?_; (focus ((with_reducible apply AOps.index_map); (iterate 7 exact rfl); rotate_left; omega)); refine zl ?_; refine AOps.fieldAddr_rN 109 1 2 2 rfl rfl rfl rfl ?_; refine nz ?_; refine zl ?_; refine AOps.load_rn rfl rfl rfl rfl ?_; refine nz ?_; refine zl ?_; refine zL ?_; refine nz ?_; refine zl ?_; refine zm ?_; refine zl ?_; refine zm ?_; refine zl ?_; refine zm ?_; refine zl ?_; (focus ((with_reducible apply AOps.index_map); (iterate 7 exact rfl); rotate_left; omega)); refine zl ?_; refine AOps.fieldAddr_rN 109 1 2 2 rfl rfl rfl rfl ?_; refine nz ?_; refine zl ?_; refine AOps.load_rn rfl rfl rfl rfl ?_; refine nz ?_; refine AOps.nil ?_; refine onlyN_n ?_; intro k_ hk_; refine AR.step1M (i := 28) rfl (by kernel_rfl) rfl ?_; intro g_ hgro_ hw_; refine zl ?_; refine zP (r2) ?_; refine AOps.nil ?_; refine onlyN_n ?_; refine AR.step1M (i := 29) rfl (by kernel_rfl) rfl ?_; intro g_ hgro_ hw_; refine zl ?_; refine zA (q2) ?_; refine AOps.nil ?_; refine onlyN_n ?_; refine AR.readsM [30, 31] (by kernel_rfl) (by kernel_rfl) (by kernel_rfl) (by kernel_rfl) ?_; intro g_ hgro_; show AOps .held _ _ _ [_, _] _ _; refine zl ?_; refine AOps.not rfl rfl rfl ?_; refine AOps.pick_lf rfl rfl rfl rfl rfl rfl ?_; refine AOps.nil ?_; refine onlyN_n ?_; intro k_ hk_; refine nz ?_; refine AR.doneM (by assumption) (by kernel_rfl) ?_; refine thenD_n ?_; refine AW.cond_lf rfl rfl ?_; refine AW.skip ?_; refine inBlockD_n ?_; refine thenD_n ?_; refine AW.region ?_; refine zm ?_; refine zj ?_; refine za ?_; refine zd ?_)
        exact ⟨k + 1, ⟨by omega, hra⟩, by omega, weak rfl (by (refine ⟨.eq rfl rfl, ?_⟩; (iterate 3 refine ⟨.eq rfl rfl, ?_⟩); exact trivial)) (by (refine ⟨.box _ rfl ?_, ?_⟩; (iterate 2 refine ⟨.eq rfl rfl, ?_⟩); (iterate 2 exact trivial))) rfl⟩
      | false =>
        rw [e1, e2] at hfx
        rw [e1] at q1
        rw [e2] at q2
        rw [hrn hfx]
        (refine zo ?_; refine zq ?_; (iterate 2 refine zm ?_); refine zn ?_; refine zs ?_; refine zd ?_; refine zc ?_; refine AW.skip ?_; refine thenD_n ?_; refine zo ?_; refine AW.block ?_; refine zo ?_; refine AW.regionM [0, 1, 2, 3, 4, 5, 6, 7, 8, 9, 10, 11] [] rfl (by assumption) (by kernel_rfl) (by kernel_rfl) rfl ?_; show AOps .held _ _ _ [_, _, _, _, _, _, _, _, _, _, _, _] _ _; (iterate 2 refine zm ?_); (focus ((with_reducible apply AOps.index_map); (iterate 7 exact rfl); rotate_left; omega)); refine AOps.fieldAddr_rN 109 0 0 2 rfl rfl rfl rfl ?_; refine nz ?_; refine AOps.load_rn rfl rfl rfl rfl ?_; refine nz ?_; refine zL ?_; refine nz ?_; (iterate 3 refine zm ?_); (focus ((with_reducible apply AOps.index_map); (iterate 7 exact rfl); rotate_left; omega)); refine AOps.fieldAddr_rN 109 0 0 2 rfl rfl rfl rfl ?_; refine nz ?_; refine AOps.load_rn rfl rfl rfl rfl ?_; refine nz ?_; refine AOps.nil ?_; refine onlyN_n ?_; intro k_ hk_; refine AR.step1M (i := 12) rfl (by kernel_rfl) rfl ?_; intro g_ hgro_ hw_; refine zP (r1) ?_; refine AOps.nil ?_; refine onlyN_n ?_; refine AR.step1M (i := 13) rfl (by kernel_rfl) rfl ?_; intro g_ hgro_ hw_; refine zA (q1) ?_; refine AOps.nil ?_; refine onlyN_n ?_; refine AR.readsM [14, 15, 16, 17, 18, 19, 20, 21, 22, 23, 24, 25, 26, 27] (by kernel_rfl) (by kernel_rfl) (by kernel_rfl) (by kernel_rfl) ?_; intro g_ hgro_; show AOps .held _ _ _ [_, _, _, _, _, _, _, _, _, _, _, _, _, _] _ _; refine AOps.not rfl rfl rfl ?_; refine zm ?_; refine zl ?_; refine zm ?_; refine zl ?_; refine zm ?_; refine zl ?_; (focus ((with_reducible apply AOps.index_map); (iterate 7 exact rfl); rotate_left; omega)); refine zl ?_; refine AOps.fieldAddr_rN 109 1 2 2 rfl rfl rfl rfl ?_; refine nz ?_; refine zl ?_; refine AOps.load_rn rfl rfl rfl rfl ?_; refine nz ?_; refine zl ?_; refine zL ?_; refine nz ?_; refine zl ?_; refine zm ?_; refine zl ?_; refine zm ?_; refine zl ?_; refine zm ?_; refine zl ?_; (focus ((with_reducible apply AOps.index_map); (iterate 7 exact rfl); rotate_left; omega)); refine zl ?_; refine AOps.fieldAddr_rN 109 1 2 2 rfl rfl rfl rfl ?_; refine nz ?_; refine zl ?_; refine AOps.load_rn rfl rfl rfl rfl ?_; refine nz ?_; refine AOps.nil ?_; refine onlyN_n ?_; intro k_ hk_; refine AR.step1M (i := 28) rfl (by kernel_rfl) rfl ?_; intro g_ hgro_ hw_; refine zl ?_; refine zP (r2) ?_; refine AOps.nil ?_; refine onlyN_n ?_; refine AR.step1M (i := 29) rfl (by kernel_rfl) rfl ?_; intro g_ hgro_ hw_; refine zl ?_; refine zA (q2) ?_; refine AOps.nil ?_; refine onlyN_n ?_; refine AR.readsM [30, 31] (by kernel_rfl) (by kernel_rfl) (by kernel_rfl) (by kernel_rfl) ?_; intro g_ hgro_; show AOps .held _ _ _ [_, _] _ _; refine zl ?_; refine AOps.not rfl rfl rfl ?_; refine AOps.pick_lf rfl rfl rfl rfl rfl rfl ?_; refine AOps.nil ?_; refine onlyN_n ?_; intro k_ hk_; refine nz ?_; refine AR.doneM (by assumption) (by kernel_rfl) ?_; refine thenD_n ?_; refine AW.cond_lt rfl rfl ?_; refine zq ?_; refine za ?_; refine zd ?_; refine AW.ret ?_; refine inBlockD_ret ?_; (iterate 2 refine thenD_ret ?_); refine inBlockD_ret ?_; refine thenD_ret ?_)
        (apply ends_ret; (exact Res.one (.tmp rfl rfl)); (refine Le.litB ?_; (rfl)))
    | false =>
      rw [e1, Bool.false_and] at hfx
      rw [e1] at q1
      rw [hrn hfx]
      (refine zo ?_; refine zq ?_; (iterate 2 refine zm ?_); refine zn ?_; refine zs ?_; refine zd ?_; refine zc ?_; refine AW.skip ?_; refine thenD_n ?_; refine zo ?_; refine AW.block ?_; refine zo ?_; refine AW.regionM [0, 1, 2, 3, 4, 5, 6, 7, 8, 9, 10, 11] [] rfl (by assumption) (by kernel_rfl) (by kernel_rfl) rfl ?_; show AOps .held _ _ _ [_, _, _, _, _, _, _, _, _, _, _, _] _ _; (iterate 2 refine zm ?_); (focus ((with_reducible apply AOps.index_map); (iterate 7 exact rfl); rotate_left; omega)); refine AOps.fieldAddr_rN 109 0 0 2 rfl rfl rfl rfl ?_; refine nz ?_; refine AOps.load_rn rfl rfl rfl rfl ?_; refine nz ?_; refine zL ?_; refine nz ?_; (iterate 3 refine zm ?_); (focus ((with_reducible apply AOps.index_map); (iterate 7 exact rfl); rotate_left; omega)); refine AOps.fieldAddr_rN 109 0 0 2 rfl rfl rfl rfl ?_; refine nz ?_; refine AOps.load_rn rfl rfl rfl rfl ?_; refine nz ?_; refine AOps.nil ?_; refine onlyN_n ?_; intro k_ hk_; refine AR.step1M (i := 12) rfl (by kernel_rfl) rfl ?_; intro g_ hgro_ hw_; refine zP (r1) ?_; refine AOps.nil ?_; refine onlyN_n ?_; refine AR.step1M (i := 13) rfl (by kernel_rfl) rfl ?_; intro g_ hgro_ hw_; refine zA (q1) ?_; refine AOps.nil ?_; refine onlyN_n ?_; refine AR.readsM [14, 15, 16, 17, 18, 19, 20, 21, 22, 23, 24, 25, 26, 27] (by kernel_rfl) (by kernel_rfl) (by kernel_rfl) (by kernel_rfl) ?_; intro g_ hgro_; show AOps .held _ _ _ [_, _, _, _, _, _, _, _, _, _, _, _, _, _] _ _; refine AOps.not rfl rfl rfl ?_; refine zm ?_; (iterate 12 refine AOps.guard_lf rfl rfl rfl rfl rfl rfl rfl ?_); refine AOps.nil ?_; refine onlyN_n ?_; intro k_ hk_; refine nz ?_; refine AR.step1M (i := 28) rfl (by kernel_rfl) rfl ?_; intro g_ hgro_ hw_; refine AOps.guard_lf rfl rfl rfl rfl rfl rfl rfl ?_; refine AOps.nil ?_; refine onlyN_n ?_; refine AR.step1M (i := 29) rfl (by kernel_rfl) rfl ?_; intro g_ hgro_ hw_; refine AOps.guard_lf rfl rfl rfl rfl rfl rfl rfl ?_; refine AOps.nil ?_; refine onlyN_n ?_; refine AR.readsM [30, 31] (by kernel_rfl) (by kernel_rfl) (by kernel_rfl) (by kernel_rfl) ?_; intro g_ hgro_; show AOps .held _ _ _ [_, _] _ _; refine AOps.guard_lf rfl rfl rfl rfl rfl rfl rfl ?_; refine AOps.pick_lt rfl rfl rfl rfl rfl rfl ?_; refine AOps.nil ?_; refine onlyN_n ?_; intro k_ hk_; refine nz ?_; refine AR.doneM (by assumption) (by kernel_rfl) ?_; refine thenD_n ?_; refine AW.cond_lt rfl rfl ?_; refine zq ?_; refine za ?_; refine zd ?_; refine AW.ret ?_; refine inBlockD_ret ?_; (iterate 2 refine thenD_ret ?_); refine inBlockD_ret ?_; refine thenD_ret ?_)
      (apply ends_ret; (exact Res.one (.tmp rfl rfl)); (refine Le.litB ?_; (rfl)))
  · obtain rfl : k = bs.length := by omega
    rw [hno]
    (refine zo ?_; refine zq ?_; (iterate 2 refine zm ?_); refine zn ?_; refine zs ?_; refine zd ?_; refine zk ?_; refine AW.exit ?_; (iterate 2 refine thenD_exit ?_); refine inBlockD_exit ?_; refine thenD_n ?_; refine zq ?_; refine nz ?_; refine za ?_; refine zd ?_; refine AW.ret ?_)
    (apply ends_ret; (exact Res.one (.tmp rfl rfl)); (refine Le.litB ?_; (rfl)))
attribute [local irreducible] symB grpM
theorem group_fn (s : SpecM) (at' : List Int) (st n : Nat) (bs : List BndM) (h : MadeOk s at' st n bs) : Fn Try.prog 35 [spc s, scp at' (st : Int), .pv (bnds bs)] (.pv (intss (grpM s at' n bs))) := by
  have ha := all11_fn at' (st : Int) n h.fit.sm h.ns h.n5
  have hal := allM_small h.n5 (srtF at') (Nat.le_refl n)
  have hfx := fun p (hp : p ∈ allM n (srtF at') n) => fixes_fn s at' (st : Int) p h.fit.sm (by have := (all_perm.1 hp).len; have := h.n5; omega)
  have hsy := fun p (hp : p ∈ allM n (srtF at') n) => symmetric_fn s at' st n bs p h (all_perm.1 hp)
  have hg : grpM s at' n bs = (allM n (srtF at') n).filter fun p => fixB s.sorts at' p && symB n (arF s.fields) p bs := by unfold grpM; rfl
  rw [hg]
  generalize allM n (srtF at') n = l at ha hal hfx hsy ⊢
  obtain ⟨so, fs, pr, fa⟩ := s
  simp only at *
  refine Fn.enter (n := 43) Try.func35 rfl rfl rfl rfl rfl (by decide) fun g hro_ hwt_ => ?_; (try refine nz ?_)
  (refine zq ?_; refine AOps.box rfl rfl rfl rfl ?_; refine nz ?_; refine AOps.box rfl rfl rfl rfl ?_; refine nz ?_; refine za ?_; refine zd ?_; refine zq ?_; refine nz ?_; refine AOps.bs0 rfl rfl rfl rfl rfl ?_; refine nz ?_; refine AOps.assign_own rfl rfl rfl ?_; refine zd ?_; refine zq ?_; refine nz ?_; refine zL ?_; refine nz ?_; refine zP (ha) ?_; refine za ?_; refine zd ?_; refine zo ?_; refine zq ?_; refine nz ?_; refine za ?_; refine zd ?_; refine AW.block ?_)
  (refine nz ?_; apply AW.loopR [8, 6, 4, 3, 2] [1, 0] (fun k : Nat => ([(9, litI k), (7, .own 2 26 1 (((l.take k).filter fun p => fixB so at' p && symB n (arF fs) p bs).map encLL))] : List (Nat × AV))) (fun k : Nat => ([(2, some .row)] : List (Nat × Option Ob))) (fun k : Nat => k ≤ l.length) (fun k : Nat => l.length - k) (0); (conv => lhs; simp only [Nf.lpR, Nf.all, Nat.reduceBEq, reduceAdd, reduceSub]); (all_goals skip))
  · exact Nat.zero_le _
  · exact weak rfl (by (refine ⟨.eq rfl rfl, ?_⟩; (iterate 6 refine ⟨.eq rfl rfl, ?_⟩); exact trivial)) (by (refine ⟨.row rfl, ?_⟩; refine ⟨.box _ rfl ?_, ?_⟩; (iterate 2 refine ⟨.eq rfl rfl, ?_⟩); exact trivial; refine ⟨.box _ rfl ?_, ?_⟩; (iterate 4 refine ⟨.eq rfl rfl, ?_⟩); (iterate 2 exact trivial))) rfl
  rintro k hk
  have hfl : ((l.take k).filter fun p => fixB so at' p && symB n (arF fs) p bs).length ≤ l.length := Nat.le_trans (List.length_filter_le _ _) (Nat.le_trans (List.length_take_le k l) hk)
  by_cases hlt : k < l.length
  · have f1 := hfx _ (List.getElem_mem hlt)
    have f2 := hsy _ (List.getElem_mem hlt)
    have hs : (l.take (k + 1)).filter (fun p => fixB so at' p && symB n (arF fs) p bs) = (l.take k).filter (fun p => fixB so at' p && symB n (arF fs) p bs) ++ if (fixB so at' l[k] && symB n (arF fs) l[k] bs) = true then [l[k]] else [] := by
      rw [take_succ_get hlt, List.filter_append, List.filter_cons]; rfl
    cases e1 : fixB so at' l[k] with
    | true =>
      rw [e1] at f1 hs
      cases e2 : symB n (arF fs) l[k] bs with
      | true =>
        rw [e2] at f2 hs
        rw [if_pos (by decide)] at hs
        (refine zo ?_; refine zq ?_; (iterate 2 refine zm ?_); refine zn ?_; refine zs ?_; refine zd ?_; refine zc ?_; refine AW.skip ?_; refine thenD_n ?_; refine zo ?_; refine AW.block ?_; refine zo ?_; (with_reducible apply AW.regionQ); exact rfl; exact rfl; kernel_rfl; (with_reducible assumption); refine zL ?_; refine nz ?_; refine zL ?_; refine nz ?_; (iterate 2 refine zm ?_); (focus ((with_reducible apply AOps.index_map); (iterate 7 exact rfl); rotate_left; omega)); refine zr ?_; refine zA (f1) ?_; refine zm ?_; refine zl ?_; refine zL ?_; refine nz ?_; refine zl ?_; refine zm ?_; refine zl ?_; refine zm ?_; refine zl ?_; refine zm ?_; refine zl ?_; (focus ((with_reducible apply AOps.index_map); (iterate 7 exact rfl); rotate_left; omega)); refine zl ?_; refine zr ?_; refine zl ?_; refine zA (f2) ?_; refine AOps.pick_lt rfl rfl rfl rfl rfl rfl ?_; refine zd ?_; refine AW.cond_lt rfl rfl ?_; refine AW.region ?_; refine nz ?_; refine AOps.move_own rfl rfl rfl ?_; (iterate 2 refine zm ?_); (focus ((with_reducible apply AOps.index_map); (iterate 7 exact rfl); rotate_left; omega)); refine zr ?_; refine AOps.bs1 rfl rfl rfl rfl rfl rfl rfl rfl ?_; refine nz ?_; (with_reducible apply AOps.appendS); exact rfl; (first | exact .pv rfl | exact .own rfl | exact .nil rfl); (iterate 9 exact rfl); (first | omega | (simp only [List.length_map, List.length_append, List.length_cons, List.length_nil, List.length_drop, List.length_take, List.length_set, chunk_len]; omega)); refine nz ?_; refine AOps.assign_own rfl rfl rfl ?_; refine AOps.nil ?_; refine inBlockD_n ?_; refine thenD_n ?_; refine AW.region ?_; refine nz ?_; refine zm ?_; refine zj ?_; refine za ?_; refine zd ?_)
        exact ⟨k + 1, by omega, by omega, weak rfl (by (refine ⟨.intE (by first | with_reducible rfl | (first | rfl | (rw [hs, List.map_append]; rfl))), ?_⟩; refine ⟨.ownE (by first | with_reducible rfl | (first | rfl | (rw [hs, List.map_append]; rfl))) rfl, ?_⟩; refine ⟨.pvE (by first | with_reducible rfl | (first | rfl | (rw [hs, List.map_append]; rfl))), ?_⟩; (iterate 3 refine ⟨.eq rfl rfl, ?_⟩); refine ⟨.pvE (by first | with_reducible rfl | (first | rfl | (rw [hs, List.map_append]; rfl))), ?_⟩; exact trivial)) (by (refine ⟨.row rfl, ?_⟩; refine ⟨.box _ rfl ?_, ?_⟩; refine ⟨.pvE (by first | with_reducible rfl | (first | rfl | (rw [hs, List.map_append]; rfl))), ?_⟩; refine ⟨.intE (by first | with_reducible rfl | (first | rfl | (rw [hs, List.map_append]; rfl))), ?_⟩; exact trivial; refine ⟨.box _ rfl ?_, ?_⟩; refine ⟨.pvE (by first | with_reducible rfl | (first | rfl | (rw [hs, List.map_append]; rfl))), ?_⟩; refine ⟨.pvE (by first | with_reducible rfl | (first | rfl | (rw [hs, List.map_append]; rfl))), ?_⟩; (iterate 2 refine ⟨.eq rfl rfl, ?_⟩); (iterate 2 exact trivial))) rfl⟩
      | false =>
        rw [e2] at f2 hs
        rw [if_neg (by decide), List.append_nil] at hs
        (refine zo ?_; refine zq ?_; (iterate 2 refine zm ?_); refine zn ?_; refine zs ?_; refine zd ?_; refine zc ?_; refine AW.skip ?_; refine thenD_n ?_; refine zo ?_; refine AW.block ?_; refine zo ?_; (with_reducible apply AW.regionQ); exact rfl; exact rfl; kernel_rfl; (with_reducible assumption); refine zL ?_; refine nz ?_; refine zL ?_; refine nz ?_; (iterate 2 refine zm ?_); (focus ((with_reducible apply AOps.index_map); (iterate 7 exact rfl); rotate_left; omega)); refine zr ?_; refine zA (f1) ?_; refine zm ?_; refine zl ?_; refine zL ?_; refine nz ?_; refine zl ?_; refine zm ?_; refine zl ?_; refine zm ?_; refine zl ?_; refine zm ?_; refine zl ?_; (focus ((with_reducible apply AOps.index_map); (iterate 7 exact rfl); rotate_left; omega)); refine zl ?_; refine zr ?_; refine zl ?_; refine zA (f2) ?_; refine AOps.pick_lt rfl rfl rfl rfl rfl rfl ?_; refine zd ?_; refine AW.cond_lf rfl rfl ?_; refine AW.skip ?_; refine inBlockD_n ?_; refine thenD_n ?_; refine AW.region ?_; refine nz ?_; refine zm ?_; refine zj ?_; refine za ?_; refine zd ?_)
        exact ⟨k + 1, by omega, by omega, weak rfl (by (refine ⟨.intE (by first | with_reducible rfl | (first | rfl | (rw [hs]))), ?_⟩; refine ⟨.ownE (by first | with_reducible rfl | (first | rfl | (rw [hs]))) rfl, ?_⟩; refine ⟨.pvE (by first | with_reducible rfl | (first | rfl | (rw [hs]))), ?_⟩; (iterate 3 refine ⟨.eq rfl rfl, ?_⟩); refine ⟨.pvE (by first | with_reducible rfl | (first | rfl | (rw [hs]))), ?_⟩; exact trivial)) (by (refine ⟨.row rfl, ?_⟩; refine ⟨.box _ rfl ?_, ?_⟩; refine ⟨.pvE (by first | with_reducible rfl | (first | rfl | (rw [hs]))), ?_⟩; refine ⟨.intE (by first | with_reducible rfl | (first | rfl | (rw [hs]))), ?_⟩; exact trivial; refine ⟨.box _ rfl ?_, ?_⟩; refine ⟨.pvE (by first | with_reducible rfl | (first | rfl | (rw [hs]))), ?_⟩; refine ⟨.pvE (by first | with_reducible rfl | (first | rfl | (rw [hs]))), ?_⟩; (iterate 2 refine ⟨.eq rfl rfl, ?_⟩); (iterate 2 exact trivial))) rfl⟩
    | false =>
      rw [e1] at f1 hs
      rw [Bool.false_and, if_neg (by decide), List.append_nil] at hs
      (refine zo ?_; refine zq ?_; (iterate 2 refine zm ?_); refine zn ?_; refine zs ?_; refine zd ?_; refine zc ?_; refine AW.skip ?_; refine thenD_n ?_; refine zo ?_; refine AW.block ?_; refine zo ?_; (with_reducible apply AW.regionQ); exact rfl; exact rfl; kernel_rfl; (with_reducible assumption); refine zL ?_; refine nz ?_; refine zL ?_; refine nz ?_; (iterate 2 refine zm ?_); (focus ((with_reducible apply AOps.index_map); (iterate 7 exact rfl); rotate_left; omega)); refine zr ?_; refine zA (f1) ?_; refine zm ?_; (iterate 7 refine AOps.guard_lf rfl rfl rfl rfl rfl rfl rfl ?_); refine AOps.pick_lf rfl rfl rfl rfl rfl rfl ?_; refine zd ?_; refine AW.cond_lf rfl rfl ?_; refine AW.skip ?_; refine inBlockD_n ?_; refine thenD_n ?_; refine AW.region ?_; refine nz ?_; refine zm ?_; refine zj ?_; refine za ?_; refine zd ?_)
      exact ⟨k + 1, by omega, by omega, weak rfl (by (refine ⟨.intE (by first | with_reducible rfl | (first | rfl | (rw [hs]))), ?_⟩; refine ⟨.ownE (by first | with_reducible rfl | (first | rfl | (rw [hs]))) rfl, ?_⟩; refine ⟨.pvE (by first | with_reducible rfl | (first | rfl | (rw [hs]))), ?_⟩; (iterate 3 refine ⟨.eq rfl rfl, ?_⟩); refine ⟨.pvE (by first | with_reducible rfl | (first | rfl | (rw [hs]))), ?_⟩; exact trivial)) (by (refine ⟨.row rfl, ?_⟩; refine ⟨.box _ rfl ?_, ?_⟩; refine ⟨.pvE (by first | with_reducible rfl | (first | rfl | (rw [hs]))), ?_⟩; refine ⟨.intE (by first | with_reducible rfl | (first | rfl | (rw [hs]))), ?_⟩; exact trivial; refine ⟨.box _ rfl ?_, ?_⟩; refine ⟨.pvE (by first | with_reducible rfl | (first | rfl | (rw [hs]))), ?_⟩; refine ⟨.pvE (by first | with_reducible rfl | (first | rfl | (rw [hs]))), ?_⟩; (iterate 2 refine ⟨.eq rfl rfl, ?_⟩); (iterate 2 exact trivial))) rfl⟩
  · rw [take_all (l := l) (by omega)]
    (refine zo ?_; refine zq ?_; (iterate 2 refine zm ?_); refine zn ?_; refine zs ?_; refine zd ?_; refine zk ?_; refine AW.exit ?_; (iterate 2 refine thenD_exit ?_); refine inBlockD_exit ?_; refine thenD_n ?_; refine zq ?_; refine nz ?_; refine AOps.move_own rfl rfl rfl ?_; refine AOps.assign_own rfl rfl rfl ?_; refine zd ?_; refine AW.ret ?_)
    (apply ends_ret; (exact Res.one (.tmp rfl rfl)); (exact Le.own _ _ _ _ rfl))
end Go.Ab
/- Chapter 24: the laws' bounds and symmetries, walked. -/
namespace Go.Ab
open Go Go.Proofs
open Nat (reduceAdd reduceSub)
set_option maxRecDepth 20000
set_option maxHeartbeats 8000000
abbrev litU16 (n : Int) : AV := .pv (.lit (.int .u16 n))
abbrev nilS : AV := .pv (.lit (.slice none 0 0))
abbrev caseA (s : SpecM) (at' : List Int) (st : Int) (raw : List (List Int)) (P Q : Int) : AV := .agg [.pv (.slice 2 (s.sorts.map encSo)), .pv (.slice 3 (s.fields.map encF)), slv s.preds, slv s.facts, .pv (ints at'), litI st, .pv (raws raw), litU16 P, litU16 Q]
theorem fits_more {s : SpecM} {at' : List Int} {st : Int} (h : fits9 s at' st = true) : at'.length ≤ 4 ∧ 1 ≤ st ∧ st ≤ 4 := by
  unfold fits9 sizedB fieldsB at h
  simp only [Bool.and_eq_true, decide_eq_true_eq, List.all_eq_true] at h
  obtain ⟨⟨h1, h2, h3, h4⟩, h5, h6, ⟨h7, h8, h9⟩, h10, h11⟩ := h
  exact ⟨h4, h8, h9⟩
theorem MadeOk.var {s : SpecM} {at' : List Int} {st n : Nat} {bs : List BndM} (h : MadeOk s at' st n bs) : VarOk s st bs := by
  have hl := good_lens h.fit h.good
  exact ⟨h.stb, ⟨h.len, by omega⟩, fun x hx => by have := hl.2 x hx; omega⟩
theorem grp_ne {s : SpecM} {at' : List Int} {st n : Nat} {bs : List BndM} (h : MadeOk s at' st n bs) : 0 < (grpM s at' n bs).length := by
  have : idA n ∈ grpM s at' n bs := grp_mem.2 (.id h.n1 h.bnd)
  exact List.length_pos_of_mem this
theorem grp_len {s : SpecM} {at' : List Int} {st n : Nat} {bs : List BndM} (h : MadeOk s at' st n bs) : (grpM s at' n bs).length ≤ 3125 := by
  unfold grpM
  exact Nat.le_trans (List.length_filter_le _ _) (allM_small h.n5 _ (Nat.le_refl n))
structure Made24 (s : SpecM) (at' : List Int) (st : Int) (raw : List (List Int)) (P Q : Int) (n m : Nat) (bs : List BndM) (p q : List Int) : Prop where
  stm : st = (m : Int)
  ok : MadeOk s at' m n bs
  mp : p ∈ grpM s at' n bs
  mq : q ∈ grpM s at' n bs
  few : (varsM 1 m (freeL 0 bs) (vrF s.fields)).length ≤ 30
  fn : Fn Try.prog 17 [caseA s at' st raw P Q] (.tup [.pv (bnds bs), .pv (intss (grpM s at' n bs)), .pv (ints p), .pv (ints q), litB true])
attribute [local irreducible] AW AOps thenD inBlockD AR iterEnds roundEndsN inlEnds noGotoD grpM varsM freeL madeL fits9
theorem sum_le5 {l : List Int} (h : ∀ x ∈ l, 0 ≤ x ∧ x ≤ 5) : 0 ≤ l.sum ∧ l.sum ≤ 5 * l.length := by
  induction l with
  | nil => simp
  | cons x l ih =>
    have h1 := h x (by simp)
    have h2 := ih fun y hy => h y (by simp [hy])
    simp only [List.sum_cons, List.length_cons]
    omega
theorem made24_fn (s : SpecM) (at' : List Int) (st : Int) (raw : List (List Int)) (P Q : Int) (hraw : ∀ r ∈ raw, ∀ x ∈ r, 0 ≤ x ∧ x ≤ 255) (hP : 0 ≤ P ∧ P ≤ 65535) (hQ : 0 ≤ Q ∧ Q ≤ 65535) :
    Fn Try.prog 17 [caseA s at' st raw P Q] (.tup [nilS, nilS, nilS, nilS, litB false]) ∨ ∃ (n m : Nat) (bs : List BndM) (p q : List Int), Made24 s at' st raw P Q n m bs p q := by
  have hfi := fits9_fn s at' st
  by_cases h5 : at'.length ≤ 4 ∧ (∀ x ∈ at', 0 ≤ x ∧ x ≤ 5) ∧ at'.sum ≤ 5 ∧ fits9 s at' st = true
  · obtain ⟨h4, hx, hs5, hft⟩ := h5
    have hf := fit_of hft
    obtain ⟨_, hst1, hst4⟩ := fits_more hft
    obtain ⟨m, rfl⟩ : ∃ m : Nat, st = (m : Int) := ⟨st.toNat, by omega⟩
    obtain ⟨n, hn⟩ : ∃ n : Nat, (n : Int) = at'.sum := ⟨at'.sum.toNat, by have := hf.one; omega⟩
    have hmf := made_fn s at' (m : Int) raw hraw hf.cols (by have := hf.fs; omega) hf.sm hf.top hf.one
    have hgd := good_made hf raw
    generalize madeL at' raw 0 s.fields = bs at hmf hgd
    have hok : MadeOk s at' m n bs := ⟨hf, hn, by have := hf.one; omega, by omega, by omega, hgd, h4, fun x h => (hx x h).2⟩
    have hgf := group_fn s at' m n bs hok
    have hvf := vars24_fn s at' m bs hok.var
    have hgn := grp_ne hok
    have hgl := grp_len hok
    rw [hft] at hfi
    have hvr : (fun f => (s.fields.getD f.toNat ⟨ByteArray.empty, [], false⟩).var) = vrF s.fields := rfl
    rw [hvr] at hvf
    by_cases h30 : 30 < ((varsM 1 m (freeL 0 bs) (vrF s.fields)).length : Int)
    · left
      generalize grpM s at' n bs = l at hgf hgn hgl
      generalize varsM 1 m (freeL 0 bs) (vrF s.fields) = vl at hvf h30
      obtain ⟨so, fs, pr, fa⟩ := s
      refine Fn.enter (n := 103) Try.func17 rfl rfl rfl rfl rfl (by decide) fun g hro_ hwt_ => ?_; (try refine nz ?_)
      (refine zq ?_; refine AOps.box rfl rfl rfl rfl ?_; refine nz ?_; (iterate 5 refine za ?_); refine zd ?_; refine zq ?_; refine nz ?_; refine za ?_; refine zd ?_; refine zo ?_; refine zq ?_; refine nz ?_; refine za ?_; refine zd ?_; refine AW.block ?_)
      (refine nz ?_; apply AW.loopR [1] [0] (fun k : Nat => ([(8, litI k), (7, litI (at'.take k).sum)] : List (Nat × AV))) (fun k : Nat => ([] : List (Nat × Option Ob))) (fun k : Nat => k ≤ at'.length) (fun k : Nat => at'.length - k) (0); (conv => lhs; simp only [Nf.lpR, Nf.all, Nat.reduceBEq, reduceAdd, reduceSub]); (all_goals skip))
      · exact Nat.zero_le _
      · exact weak rfl (by (refine ⟨.eq rfl rfl, ?_⟩; (iterate 2 refine ⟨.eq rfl rfl, ?_⟩); exact trivial)) (by (refine ⟨.box _ rfl ?_, ?_⟩; (iterate 9 refine ⟨.eq rfl rfl, ?_⟩); (iterate 2 exact trivial))) rfl
      rintro k hk
      have hxt : ∀ x ∈ at'.take k, 0 ≤ x ∧ x ≤ 5 := fun x h => hx x (List.mem_of_mem_take h)
      have hsb := sum_le5 hxt
      have htl := List.length_take_le k at'
      by_cases hlt : k < at'.length
      · have hxk := hx _ (List.getElem_mem hlt)
        have hs := sum_snoc at' hlt
        (refine zo ?_; refine zq ?_; refine zm ?_; refine AOps.fieldAddrN 54 1 4 rfl rfl rfl rfl ?_; refine AOps.fieldAddrN 49 0 0 rfl rfl rfl rfl ?_; refine zb ?_; refine zn ?_; refine zs ?_; refine zm ?_; refine zt ?_; refine zm ?_; refine zt ?_; refine zs ?_; refine zT ?_; refine zd ?_; refine zc ?_; refine AW.skip ?_; refine thenD_n ?_; refine zo ?_; refine AW.block ?_; refine zq ?_; refine nz ?_; refine zm ?_; refine AOps.fieldAddrN 54 1 4 rfl rfl rfl rfl ?_; refine AOps.fieldAddrN 49 0 0 rfl rfl rfl rfl ?_; refine zb ?_; refine zm ?_; (focus ((with_reducible apply AOps.index_map); (iterate 7 exact rfl); rotate_left; omega)); refine zr ?_; refine zj ?_; refine za ?_; refine zd ?_; refine zq ?_; refine nz ?_; refine AOps.fieldAddrN 54 1 4 rfl rfl rfl rfl ?_; refine AOps.fieldAddrN 49 0 0 rfl rfl rfl rfl ?_; refine zb ?_; refine zm ?_; (focus ((with_reducible apply AOps.index_map); (iterate 7 exact rfl); rotate_left; omega)); refine zr ?_; refine zs ?_; refine zm ?_; refine zy ?_; refine AOps.fieldAddrN 54 1 4 rfl rfl rfl rfl ?_; refine zy ?_; refine AOps.fieldAddrN 49 0 0 rfl rfl rfl rfl ?_; refine zy ?_; refine zb ?_; refine zy ?_; refine zm ?_; refine zy ?_; (focus ((with_reducible apply AOps.index_map); (iterate 7 exact rfl); rotate_left; omega)); refine zy ?_; refine zr ?_; refine zy ?_; refine AOps.gtr rfl rfl rfl rfl rfl ?_; refine zF ?_; refine zd ?_; refine zk ?_; refine AW.skip ?_; refine inBlockD_n ?_; refine thenD_n ?_; refine AW.region ?_; refine nz ?_; refine zm ?_; refine zj ?_; refine za ?_; refine zd ?_)
        exact ⟨k + 1, by omega, by omega, weak rfl (by (refine ⟨.intE (by first | with_reducible rfl | (first | rfl | (rw [hs]))), ?_⟩; refine ⟨.intE (by first | with_reducible rfl | (first | rfl | (rw [hs]))), ?_⟩; refine ⟨.eq rfl rfl, ?_⟩; exact trivial)) (by (refine ⟨.box _ rfl ?_, ?_⟩; refine ⟨.pvE (by first | with_reducible rfl | (first | rfl | (rw [hs]))), ?_⟩; refine ⟨.pvE (by first | with_reducible rfl | (first | rfl | (rw [hs]))), ?_⟩; (iterate 2 refine ⟨.eq rfl rfl, ?_⟩); refine ⟨.pvE (by first | with_reducible rfl | (first | rfl | (rw [hs]))), ?_⟩; refine ⟨.intE (by first | with_reducible rfl | (first | rfl | (rw [hs]))), ?_⟩; refine ⟨.pvE (by first | with_reducible rfl | (first | rfl | (rw [hs]))), ?_⟩; refine ⟨.intE (by first | with_reducible rfl | (first | rfl | (rw [hs]))), ?_⟩; refine ⟨.intE (by first | with_reducible rfl | (first | rfl | (rw [hs]))), ?_⟩; (iterate 2 exact trivial))) rfl⟩
      · have e : at'.take k = at' := List.take_of_length_le (by omega)
        rw [e]
        (refine zo ?_; refine zq ?_; refine zm ?_; refine AOps.fieldAddrN 54 1 4 rfl rfl rfl rfl ?_; refine AOps.fieldAddrN 49 0 0 rfl rfl rfl rfl ?_; refine zb ?_; refine zn ?_; refine zs ?_; refine zm ?_; (iterate 2 refine AOps.guardTn rfl rfl rfl rfl rfl rfl (by first | omega | decide) ?_); refine zF ?_; refine zd ?_; refine AW.cond_lf rfl rfl ?_; refine AW.exit ?_; (iterate 2 refine thenD_exit ?_); refine inBlockD_exit ?_; refine thenD_n ?_; refine zo ?_; refine zq ?_; refine nz ?_; refine zm ?_; refine AOps.gtr rfl rfl rfl rfl rfl ?_; refine zm ?_; refine zy ?_; refine AOps.fieldAddrN 54 0 0 rfl rfl rfl rfl ?_; refine zy ?_; (with_reducible apply AOps.load_bs); (iterate 3 exact rfl); (repeat' first | exact Sub.nil | apply Sub.take | apply Sub.skip); (iterate 3 exact rfl); refine zy ?_; refine AOps.fieldAddrN 54 1 4 rfl rfl rfl rfl ?_; refine zy ?_; (with_reducible apply AOps.load_bs); (iterate 3 exact rfl); (repeat' first | exact Sub.nil | apply Sub.take | apply Sub.skip); (iterate 3 exact rfl); refine zy ?_; refine zA (hfi) ?_; refine zy ?_; refine AOps.not rfl rfl rfl ?_; refine zF ?_; refine zd ?_; refine AW.cond_lf rfl rfl ?_; refine AW.skip ?_; refine thenD_n ?_; refine zq ?_; refine nz ?_; refine AOps.fieldAddrN 54 0 0 rfl rfl rfl rfl ?_; (with_reducible apply AOps.load_bs); (iterate 3 exact rfl); (repeat' first | exact Sub.nil | apply Sub.take | apply Sub.skip); (iterate 3 exact rfl); refine AOps.fieldAddrN 54 1 4 rfl rfl rfl rfl ?_; (with_reducible apply AOps.load_bs); (iterate 3 exact rfl); (repeat' first | exact Sub.nil | apply Sub.take | apply Sub.skip); (iterate 3 exact rfl); refine AOps.fieldAddrN 54 2 6 rfl rfl rfl rfl ?_; refine zb ?_; refine zP (hmf) ?_; refine za ?_; refine zd ?_; refine zq ?_; refine nz ?_; refine AOps.fieldAddrN 54 0 0 rfl rfl rfl rfl ?_; (with_reducible apply AOps.load_bs); (iterate 3 exact rfl); (repeat' first | exact Sub.nil | apply Sub.take | apply Sub.skip); (iterate 3 exact rfl); refine AOps.fieldAddrN 54 1 4 rfl rfl rfl rfl ?_; (with_reducible apply AOps.load_bs); (iterate 3 exact rfl); (repeat' first | exact Sub.nil | apply Sub.take | apply Sub.skip); (iterate 3 exact rfl); refine zm ?_; refine zP (hgf) ?_; refine za ?_; refine zd ?_; refine zo ?_; refine zq ?_; refine nz ?_; refine zm ?_; refine zn ?_; refine AOps.eql rfl rfl rfl rfl rfl ?_; refine zm ?_; refine zy ?_; refine AOps.fieldAddrN 54 0 0 rfl rfl rfl rfl ?_; refine zy ?_; (with_reducible apply AOps.load_bs); (iterate 3 exact rfl); (repeat' first | exact Sub.nil | apply Sub.take | apply Sub.skip); (iterate 3 exact rfl); refine zy ?_; refine AOps.fieldAddrN 54 1 4 rfl rfl rfl rfl ?_; refine zy ?_; (with_reducible apply AOps.load_bs); (iterate 3 exact rfl); (repeat' first | exact Sub.nil | apply Sub.take | apply Sub.skip); (iterate 3 exact rfl); refine zy ?_; refine zm ?_; refine zy ?_; refine zP (hvf) ?_; refine zy ?_; refine zn ?_; refine zy ?_; refine AOps.gtr rfl rfl rfl rfl rfl ?_; refine zF ?_; refine zd ?_; refine zc ?_; refine zq ?_; refine nz ?_; (iterate 5 refine za ?_); refine zd ?_; refine AW.ret ?_; refine thenD_ret ?_)
        all_goals (apply ends_ret; (exact Res.five (.tmp rfl rfl) (.tmp rfl rfl) (.tmp rfl rfl) (.tmp rfl rfl) (.tmp rfl rfl)); (refine Le.tupL ?_; refine LeL.cons ?_ ?_; exact Le.pv _; refine LeL.cons ?_ ?_; exact Le.pv _; refine LeL.cons ?_ ?_; exact Le.pv _; refine LeL.cons ?_ ?_; exact Le.pv _; refine LeL.cons ?_ ?_; refine Le.litB ?_; (rfl); exact LeL.nil))
    · right
      obtain ⟨p, hp, q, hq, hfn⟩ : ∃ p ∈ grpM s at' n bs, ∃ q ∈ grpM s at' n bs, Fn Try.prog 17 [caseA s at' (m : Int) raw P Q] (.tup [.pv (bnds bs), .pv (intss (grpM s at' n bs)), .pv (ints p), .pv (ints q), litB true]) := by
        generalize grpM s at' n bs = l at hgf hgn hgl ⊢
        have hp0 : 0 ≤ P % (l.length : Int) := Int.emod_nonneg _ (by omega)
        have hp1 : P % (l.length : Int) < (l.length : Int) := Int.emod_lt_of_pos _ (by omega)
        have hq0 : 0 ≤ Q % (l.length : Int) := Int.emod_nonneg _ (by omega)
        have hq1 : Q % (l.length : Int) < (l.length : Int) := Int.emod_lt_of_pos _ (by omega)
        refine ⟨l[(P % (l.length : Int)).toNat]'(by omega), List.getElem_mem _, l[(Q % (l.length : Int)).toNat]'(by omega), List.getElem_mem _, ?_⟩
        generalize varsM 1 m (freeL 0 bs) (vrF s.fields) = vl at hvf h30
        obtain ⟨so, fs, pr, fa⟩ := s
        refine Fn.enter (n := 103) Try.func17 rfl rfl rfl rfl rfl (by decide) fun g hro_ hwt_ => ?_; (try refine nz ?_)
        (refine zq ?_; refine AOps.box rfl rfl rfl rfl ?_; refine nz ?_; (iterate 5 refine za ?_); refine zd ?_; refine zq ?_; refine nz ?_; refine za ?_; refine zd ?_; refine zo ?_; refine zq ?_; refine nz ?_; refine za ?_; refine zd ?_; refine AW.block ?_)
        (refine nz ?_; apply AW.loopR [1] [0] (fun k : Nat => ([(8, litI k), (7, litI (at'.take k).sum)] : List (Nat × AV))) (fun k : Nat => ([] : List (Nat × Option Ob))) (fun k : Nat => k ≤ at'.length) (fun k : Nat => at'.length - k) (0); (conv => lhs; simp only [Nf.lpR, Nf.all, Nat.reduceBEq, reduceAdd, reduceSub]); (all_goals skip))
        · exact Nat.zero_le _
        · exact weak rfl (by (refine ⟨.eq rfl rfl, ?_⟩; (iterate 2 refine ⟨.eq rfl rfl, ?_⟩); exact trivial)) (by (refine ⟨.box _ rfl ?_, ?_⟩; (iterate 9 refine ⟨.eq rfl rfl, ?_⟩); (iterate 2 exact trivial))) rfl
        rintro k hk
        have hxt : ∀ x ∈ at'.take k, 0 ≤ x ∧ x ≤ 5 := fun x h => hx x (List.mem_of_mem_take h)
        have hsb := sum_le5 hxt
        have htl := List.length_take_le k at'
        by_cases hlt : k < at'.length
        · have hxk := hx _ (List.getElem_mem hlt)
          have hs := sum_snoc at' hlt
          (refine zo ?_; refine zq ?_; refine zm ?_; refine AOps.fieldAddrN 54 1 4 rfl rfl rfl rfl ?_; refine AOps.fieldAddrN 49 0 0 rfl rfl rfl rfl ?_; refine zb ?_; refine zn ?_; refine zs ?_; refine zm ?_; refine zt ?_; refine zm ?_; refine zt ?_; refine zs ?_; refine zT ?_; refine zd ?_; refine zc ?_; refine AW.skip ?_; refine thenD_n ?_; refine zo ?_; refine AW.block ?_; refine zq ?_; refine nz ?_; refine zm ?_; refine AOps.fieldAddrN 54 1 4 rfl rfl rfl rfl ?_; refine AOps.fieldAddrN 49 0 0 rfl rfl rfl rfl ?_; refine zb ?_; refine zm ?_; (focus ((with_reducible apply AOps.index_map); (iterate 7 exact rfl); rotate_left; omega)); refine zr ?_; refine zj ?_; refine za ?_; refine zd ?_; refine zq ?_; refine nz ?_; refine AOps.fieldAddrN 54 1 4 rfl rfl rfl rfl ?_; refine AOps.fieldAddrN 49 0 0 rfl rfl rfl rfl ?_; refine zb ?_; refine zm ?_; (focus ((with_reducible apply AOps.index_map); (iterate 7 exact rfl); rotate_left; omega)); refine zr ?_; refine zs ?_; refine zm ?_; refine zy ?_; refine AOps.fieldAddrN 54 1 4 rfl rfl rfl rfl ?_; refine zy ?_; refine AOps.fieldAddrN 49 0 0 rfl rfl rfl rfl ?_; refine zy ?_; refine zb ?_; refine zy ?_; refine zm ?_; refine zy ?_; (focus ((with_reducible apply AOps.index_map); (iterate 7 exact rfl); rotate_left; omega)); refine zy ?_; refine zr ?_; refine zy ?_; refine AOps.gtr rfl rfl rfl rfl rfl ?_; refine zF ?_; refine zd ?_; refine zk ?_; refine AW.skip ?_; refine inBlockD_n ?_; refine thenD_n ?_; refine AW.region ?_; refine nz ?_; refine zm ?_; refine zj ?_; refine za ?_; refine zd ?_)
          exact ⟨k + 1, by omega, by omega, weak rfl (by (refine ⟨.intE (by first | with_reducible rfl | (first | rfl | (rw [hs]))), ?_⟩; refine ⟨.intE (by first | with_reducible rfl | (first | rfl | (rw [hs]))), ?_⟩; refine ⟨.eq rfl rfl, ?_⟩; exact trivial)) (by (refine ⟨.box _ rfl ?_, ?_⟩; refine ⟨.pvE (by first | with_reducible rfl | (first | rfl | (rw [hs]))), ?_⟩; refine ⟨.pvE (by first | with_reducible rfl | (first | rfl | (rw [hs]))), ?_⟩; (iterate 2 refine ⟨.eq rfl rfl, ?_⟩); refine ⟨.pvE (by first | with_reducible rfl | (first | rfl | (rw [hs]))), ?_⟩; refine ⟨.intE (by first | with_reducible rfl | (first | rfl | (rw [hs]))), ?_⟩; refine ⟨.pvE (by first | with_reducible rfl | (first | rfl | (rw [hs]))), ?_⟩; refine ⟨.intE (by first | with_reducible rfl | (first | rfl | (rw [hs]))), ?_⟩; refine ⟨.intE (by first | with_reducible rfl | (first | rfl | (rw [hs]))), ?_⟩; (iterate 2 exact trivial))) rfl⟩
        · have e : at'.take k = at' := List.take_of_length_le (by omega)
          rw [e]
          (refine zo ?_; refine zq ?_; refine zm ?_; refine AOps.fieldAddrN 54 1 4 rfl rfl rfl rfl ?_; refine AOps.fieldAddrN 49 0 0 rfl rfl rfl rfl ?_; refine zb ?_; refine zn ?_; refine zs ?_; refine zm ?_; (iterate 2 refine AOps.guardTn rfl rfl rfl rfl rfl rfl (by first | omega | decide) ?_); refine zF ?_; refine zd ?_; refine AW.cond_lf rfl rfl ?_; refine AW.exit ?_; (iterate 2 refine thenD_exit ?_); refine inBlockD_exit ?_; refine thenD_n ?_; refine zo ?_; refine zq ?_; refine nz ?_; refine zm ?_; refine AOps.gtr rfl rfl rfl rfl rfl ?_; refine zm ?_; refine zy ?_; refine AOps.fieldAddrN 54 0 0 rfl rfl rfl rfl ?_; refine zy ?_; (with_reducible apply AOps.load_bs); (iterate 3 exact rfl); (repeat' first | exact Sub.nil | apply Sub.take | apply Sub.skip); (iterate 3 exact rfl); refine zy ?_; refine AOps.fieldAddrN 54 1 4 rfl rfl rfl rfl ?_; refine zy ?_; (with_reducible apply AOps.load_bs); (iterate 3 exact rfl); (repeat' first | exact Sub.nil | apply Sub.take | apply Sub.skip); (iterate 3 exact rfl); refine zy ?_; refine zA (hfi) ?_; refine zy ?_; refine AOps.not rfl rfl rfl ?_; refine zF ?_; refine zd ?_; refine AW.cond_lf rfl rfl ?_; refine AW.skip ?_; refine thenD_n ?_; refine zq ?_; refine nz ?_; refine AOps.fieldAddrN 54 0 0 rfl rfl rfl rfl ?_; (with_reducible apply AOps.load_bs); (iterate 3 exact rfl); (repeat' first | exact Sub.nil | apply Sub.take | apply Sub.skip); (iterate 3 exact rfl); refine AOps.fieldAddrN 54 1 4 rfl rfl rfl rfl ?_; (with_reducible apply AOps.load_bs); (iterate 3 exact rfl); (repeat' first | exact Sub.nil | apply Sub.take | apply Sub.skip); (iterate 3 exact rfl); refine AOps.fieldAddrN 54 2 6 rfl rfl rfl rfl ?_; refine zb ?_; refine zP (hmf) ?_; refine za ?_; refine zd ?_; refine zq ?_; refine nz ?_; refine AOps.fieldAddrN 54 0 0 rfl rfl rfl rfl ?_; (with_reducible apply AOps.load_bs); (iterate 3 exact rfl); (repeat' first | exact Sub.nil | apply Sub.take | apply Sub.skip); (iterate 3 exact rfl); refine AOps.fieldAddrN 54 1 4 rfl rfl rfl rfl ?_; (with_reducible apply AOps.load_bs); (iterate 3 exact rfl); (repeat' first | exact Sub.nil | apply Sub.take | apply Sub.skip); (iterate 3 exact rfl); refine zm ?_; refine zP (hgf) ?_; refine za ?_; refine zd ?_; refine zo ?_; refine zq ?_; refine nz ?_; refine zm ?_; refine zn ?_; refine AOps.eql rfl rfl rfl rfl rfl ?_; refine zm ?_; refine zy ?_; refine AOps.fieldAddrN 54 0 0 rfl rfl rfl rfl ?_; refine zy ?_; (with_reducible apply AOps.load_bs); (iterate 3 exact rfl); (repeat' first | exact Sub.nil | apply Sub.take | apply Sub.skip); (iterate 3 exact rfl); refine zy ?_; refine AOps.fieldAddrN 54 1 4 rfl rfl rfl rfl ?_; refine zy ?_; (with_reducible apply AOps.load_bs); (iterate 3 exact rfl); (repeat' first | exact Sub.nil | apply Sub.take | apply Sub.skip); (iterate 3 exact rfl); refine zy ?_; refine zm ?_; refine zy ?_; refine zP (hvf) ?_; refine zy ?_; refine zn ?_; refine zy ?_; refine AOps.gtr rfl rfl rfl rfl rfl ?_; refine zF ?_; refine zd ?_; refine zk ?_; refine AW.skip ?_; refine thenD_n ?_; refine zo ?_; (with_reducible apply AW.regionQ); exact rfl; exact rfl; kernel_rfl; (with_reducible assumption); (iterate 3 refine zm ?_); refine AOps.fieldAddrN 54 3 7 rfl rfl rfl rfl ?_; refine zb ?_; refine AOps.convI rfl rfl rfl rfl rfl (by omega) ?_; refine zm ?_; refine zn ?_; refine AOps.remE rfl rfl rfl rfl rfl (by omega) ?_; (focus ((with_reducible apply AOps.index_mapI); (iterate 7 exact rfl); omega; rotate_left; (first | omega | exact Nat.zero_lt_one | exact (by simp)))); refine zr ?_; refine zm ?_; refine AOps.fieldAddrN 54 4 8 rfl rfl rfl rfl ?_; refine zb ?_; refine AOps.convI rfl rfl rfl rfl rfl (by omega) ?_; refine zm ?_; refine zn ?_; refine AOps.remE rfl rfl rfl rfl rfl (by omega) ?_; (focus ((with_reducible apply AOps.index_mapI); (iterate 7 exact rfl); omega; rotate_left; (first | omega | exact Nat.zero_lt_one | exact (by simp)))); refine zr ?_; (iterate 5 refine za ?_); refine zd ?_; refine AW.ret ?_)
          all_goals (apply ends_ret; (exact Res.five (.tmp rfl rfl) (.tmp rfl rfl) (.tmp rfl rfl) (.tmp rfl rfl) (.tmp rfl rfl)); (refine Le.tupL ?_; refine LeL.cons ?_ ?_; refine Le.pvE ?_; (rfl); refine LeL.cons ?_ ?_; refine Le.pvE ?_; (rfl); refine LeL.cons ?_ ?_; refine Le.pvE ?_; (rfl); refine LeL.cons ?_ ?_; refine Le.pvE ?_; (rfl); refine LeL.cons ?_ ?_; refine Le.litB ?_; (rfl); exact LeL.nil))
      exact ⟨n, m, bs, p, q, ⟨rfl, hok, hp, hq, by omega, hfn⟩⟩
  · left
    obtain ⟨so, fs, pr, fa⟩ := s
    refine Fn.enter (n := 103) Try.func17 rfl rfl rfl rfl rfl (by decide) fun g hro_ hwt_ => ?_; (try refine nz ?_)
    (refine zq ?_; refine AOps.box rfl rfl rfl rfl ?_; refine nz ?_; (iterate 5 refine za ?_); refine zd ?_; refine zq ?_; refine nz ?_; refine za ?_; refine zd ?_; refine zo ?_; refine zq ?_; refine nz ?_; refine za ?_; refine zd ?_; refine AW.block ?_)
    (refine nz ?_; apply AW.loopR [1] [0] (fun k : Nat => ([(8, litI k), (7, litI (at'.take k).sum)] : List (Nat × AV))) (fun k : Nat => ([] : List (Nat × Option Ob))) (fun k : Nat => k ≤ at'.length ∧ k ≤ 4 ∧ ∀ x ∈ at'.take k, 0 ≤ x ∧ x ≤ 5) (fun k : Nat => at'.length - k) (0); (conv => lhs; simp only [Nf.lpR, Nf.all, Nat.reduceBEq, reduceAdd, reduceSub]); (all_goals skip))
    · exact ⟨Nat.zero_le _, Nat.zero_le _, by simp⟩
    · exact weak rfl (by (refine ⟨.eq rfl rfl, ?_⟩; (iterate 2 refine ⟨.eq rfl rfl, ?_⟩); exact trivial)) (by (refine ⟨.box _ rfl ?_, ?_⟩; (iterate 9 refine ⟨.eq rfl rfl, ?_⟩); (iterate 2 exact trivial))) rfl
    rintro k ⟨hk, hk4, hx⟩
    have hsb := sum_le5 hx
    have htl := List.length_take_le k at'
    by_cases hlt : k < at'.length ∧ k < 4
    · obtain ⟨hlt, hlt4⟩ := hlt
      by_cases hxk : 0 ≤ at'[k] ∧ at'[k] ≤ 5
      · have hs := sum_snoc at' hlt
        have hx' : ∀ x ∈ at'.take (k + 1), 0 ≤ x ∧ x ≤ 5 := by
          rw [take_succ_get hlt]
          intro x h
          rcases List.mem_append.1 h with h | h
          · exact hx x h
          · rw [List.mem_singleton] at h; subst h; exact hxk
        (refine zo ?_; refine zq ?_; refine zm ?_; refine AOps.fieldAddrN 54 1 4 rfl rfl rfl rfl ?_; refine AOps.fieldAddrN 49 0 0 rfl rfl rfl rfl ?_; refine zb ?_; refine zn ?_; refine zs ?_; refine zm ?_; refine zt ?_; refine zm ?_; refine zt ?_; refine zs ?_; refine zT ?_; refine zd ?_; refine zc ?_; refine AW.skip ?_; refine thenD_n ?_; refine zo ?_; refine AW.block ?_; refine zq ?_; refine nz ?_; refine zm ?_; refine AOps.fieldAddrN 54 1 4 rfl rfl rfl rfl ?_; refine AOps.fieldAddrN 49 0 0 rfl rfl rfl rfl ?_; refine zb ?_; refine zm ?_; (focus ((with_reducible apply AOps.index_map); (iterate 7 exact rfl); rotate_left; omega)); refine zr ?_; refine zj ?_; refine za ?_; refine zd ?_; refine zq ?_; refine nz ?_; refine AOps.fieldAddrN 54 1 4 rfl rfl rfl rfl ?_; refine AOps.fieldAddrN 49 0 0 rfl rfl rfl rfl ?_; refine zb ?_; refine zm ?_; (focus ((with_reducible apply AOps.index_map); (iterate 7 exact rfl); rotate_left; omega)); refine zr ?_; refine zs ?_; refine zm ?_; refine zy ?_; refine AOps.fieldAddrN 54 1 4 rfl rfl rfl rfl ?_; refine zy ?_; refine AOps.fieldAddrN 49 0 0 rfl rfl rfl rfl ?_; refine zy ?_; refine zb ?_; refine zy ?_; refine zm ?_; refine zy ?_; (focus ((with_reducible apply AOps.index_map); (iterate 7 exact rfl); rotate_left; omega)); refine zy ?_; refine zr ?_; refine zy ?_; refine AOps.gtr rfl rfl rfl rfl rfl ?_; refine zF ?_; refine zd ?_; refine zk ?_; refine AW.skip ?_; refine inBlockD_n ?_; refine thenD_n ?_; refine AW.region ?_; refine nz ?_; refine zm ?_; refine zj ?_; refine za ?_; refine zd ?_)
        exact ⟨k + 1, ⟨by omega, by omega, hx'⟩, by omega, weak rfl (by (refine ⟨.intE (by first | with_reducible rfl | (first | rfl | (rw [hs]))), ?_⟩; refine ⟨.intE (by first | with_reducible rfl | (first | rfl | (rw [hs]))), ?_⟩; refine ⟨.eq rfl rfl, ?_⟩; exact trivial)) (by (refine ⟨.box _ rfl ?_, ?_⟩; refine ⟨.pvE (by first | with_reducible rfl | (first | rfl | (rw [hs]))), ?_⟩; refine ⟨.pvE (by first | with_reducible rfl | (first | rfl | (rw [hs]))), ?_⟩; (iterate 2 refine ⟨.eq rfl rfl, ?_⟩); refine ⟨.pvE (by first | with_reducible rfl | (first | rfl | (rw [hs]))), ?_⟩; refine ⟨.intE (by first | with_reducible rfl | (first | rfl | (rw [hs]))), ?_⟩; refine ⟨.pvE (by first | with_reducible rfl | (first | rfl | (rw [hs]))), ?_⟩; refine ⟨.intE (by first | with_reducible rfl | (first | rfl | (rw [hs]))), ?_⟩; refine ⟨.intE (by first | with_reducible rfl | (first | rfl | (rw [hs]))), ?_⟩; (iterate 2 exact trivial))) rfl⟩
      · by_cases hn0 : at'[k] < 0
        · (refine zo ?_; refine zq ?_; refine zm ?_; refine AOps.fieldAddrN 54 1 4 rfl rfl rfl rfl ?_; refine AOps.fieldAddrN 49 0 0 rfl rfl rfl rfl ?_; refine zb ?_; refine zn ?_; refine zs ?_; refine zm ?_; refine zt ?_; refine zm ?_; refine zt ?_; refine zs ?_; refine zT ?_; refine zd ?_; refine zc ?_; refine AW.skip ?_; refine thenD_n ?_; refine zo ?_; refine AW.block ?_; refine zq ?_; refine nz ?_; refine zm ?_; refine AOps.fieldAddrN 54 1 4 rfl rfl rfl rfl ?_; refine AOps.fieldAddrN 49 0 0 rfl rfl rfl rfl ?_; refine zb ?_; refine zm ?_; (focus ((with_reducible apply AOps.index_map); (iterate 7 exact rfl); rotate_left; omega)); refine zr ?_; refine AOps.addw rfl rfl rfl rfl rfl ?_; refine za ?_; refine zd ?_; refine zq ?_; refine nz ?_; refine AOps.fieldAddrN 54 1 4 rfl rfl rfl rfl ?_; refine AOps.fieldAddrN 49 0 0 rfl rfl rfl rfl ?_; refine zb ?_; refine zm ?_; (focus ((with_reducible apply AOps.index_map); (iterate 7 exact rfl); rotate_left; omega)); refine zr ?_; refine zs ?_; refine zm ?_; (iterate 7 refine AOps.guardFn rfl rfl rfl rfl rfl rfl (by with_reducible assumption) ?_); refine zT ?_; refine zd ?_; refine AW.cond_lt rfl rfl ?_; refine zq ?_; refine nz ?_; (iterate 5 refine za ?_); refine zd ?_; refine AW.ret ?_; refine inBlockD_ret ?_; (iterate 2 refine thenD_ret ?_); refine inBlockD_ret ?_; refine thenD_ret ?_)
          (apply ends_ret; (exact Res.five (.tmp rfl rfl) (.tmp rfl rfl) (.tmp rfl rfl) (.tmp rfl rfl) (.tmp rfl rfl)); (refine Le.tupL ?_; refine LeL.cons ?_ ?_; exact Le.pv _; refine LeL.cons ?_ ?_; exact Le.pv _; refine LeL.cons ?_ ?_; exact Le.pv _; refine LeL.cons ?_ ?_; exact Le.pv _; refine LeL.cons ?_ ?_; refine Le.litB ?_; (rfl); exact LeL.nil))
        · have hn5 : 5 < at'[k] := by omega
          (refine zo ?_; refine zq ?_; refine zm ?_; refine AOps.fieldAddrN 54 1 4 rfl rfl rfl rfl ?_; refine AOps.fieldAddrN 49 0 0 rfl rfl rfl rfl ?_; refine zb ?_; refine zn ?_; refine zs ?_; refine zm ?_; refine zt ?_; refine zm ?_; refine zt ?_; refine zs ?_; refine zT ?_; refine zd ?_; refine zc ?_; refine AW.skip ?_; refine thenD_n ?_; refine zo ?_; refine AW.block ?_; refine zq ?_; refine nz ?_; refine zm ?_; refine AOps.fieldAddrN 54 1 4 rfl rfl rfl rfl ?_; refine AOps.fieldAddrN 49 0 0 rfl rfl rfl rfl ?_; refine zb ?_; refine zm ?_; (focus ((with_reducible apply AOps.index_map); (iterate 7 exact rfl); rotate_left; omega)); refine zr ?_; refine AOps.addw rfl rfl rfl rfl rfl ?_; refine za ?_; refine zd ?_; refine zq ?_; refine nz ?_; refine AOps.fieldAddrN 54 1 4 rfl rfl rfl rfl ?_; refine AOps.fieldAddrN 49 0 0 rfl rfl rfl rfl ?_; refine zb ?_; refine zm ?_; (focus ((with_reducible apply AOps.index_map); (iterate 7 exact rfl); rotate_left; omega)); refine zr ?_; refine zs ?_; refine zm ?_; refine zy ?_; refine AOps.fieldAddrN 54 1 4 rfl rfl rfl rfl ?_; refine zy ?_; refine AOps.fieldAddrN 49 0 0 rfl rfl rfl rfl ?_; refine zy ?_; refine zb ?_; refine zy ?_; refine zm ?_; refine zy ?_; (focus ((with_reducible apply AOps.index_map); (iterate 7 exact rfl); rotate_left; omega)); refine zy ?_; refine zr ?_; refine zy ?_; refine AOps.gtr rfl rfl rfl rfl rfl ?_; refine zF ?_; refine zd ?_; refine zc ?_; refine zq ?_; refine nz ?_; (iterate 5 refine za ?_); refine zd ?_; refine AW.ret ?_; refine inBlockD_ret ?_; (iterate 2 refine thenD_ret ?_); refine inBlockD_ret ?_; refine thenD_ret ?_)
          (apply ends_ret; (exact Res.five (.tmp rfl rfl) (.tmp rfl rfl) (.tmp rfl rfl) (.tmp rfl rfl) (.tmp rfl rfl)); (refine Le.tupL ?_; refine LeL.cons ?_ ?_; exact Le.pv _; refine LeL.cons ?_ ?_; exact Le.pv _; refine LeL.cons ?_ ?_; exact Le.pv _; refine LeL.cons ?_ ?_; exact Le.pv _; refine LeL.cons ?_ ?_; refine Le.litB ?_; (rfl); exact LeL.nil))
    · by_cases hn5 : 5 < (at'.take k).sum
      · (refine zo ?_; refine zq ?_; refine zm ?_; refine AOps.fieldAddrN 54 1 4 rfl rfl rfl rfl ?_; refine AOps.fieldAddrN 49 0 0 rfl rfl rfl rfl ?_; refine zb ?_; refine zn ?_; refine zs ?_; refine zm ?_; (focus ((with_reducible apply AOps.guardT); (iterate 6 exact rfl); all_goals intro hc_)); refine zm ?_; refine zt ?_; refine zs ?_; refine zT ?_; refine zd ?_; refine zk ?_; refine AW.exit ?_; (iterate 2 refine thenD_exit ?_); refine inBlockD_exit ?_; refine thenD_n ?_; refine zo ?_; refine zq ?_; refine nz ?_; refine zm ?_; refine AOps.gtr rfl rfl rfl rfl rfl ?_; refine zm ?_; (iterate 6 refine AOps.guardFn rfl rfl rfl rfl rfl rfl (by with_reducible assumption) ?_); refine zT ?_; refine zd ?_; refine AW.cond_lt rfl rfl ?_; refine zq ?_; refine nz ?_; (iterate 5 refine za ?_); refine zd ?_; refine AW.ret ?_; refine thenD_ret ?_; (all_goals skip); rotate_left; refine AOps.guardTn rfl rfl rfl rfl rfl rfl (by with_reducible assumption) ?_; refine zF ?_; refine zd ?_; refine AW.cond_lf rfl rfl ?_; refine AW.exit ?_; (iterate 2 refine thenD_exit ?_); refine inBlockD_exit ?_; refine thenD_n ?_; refine zo ?_; refine zq ?_; refine nz ?_; refine zm ?_; refine AOps.gtr rfl rfl rfl rfl rfl ?_; refine zm ?_; (iterate 6 refine AOps.guardFn rfl rfl rfl rfl rfl rfl (by with_reducible assumption) ?_); refine zT ?_; refine zd ?_; refine AW.cond_lt rfl rfl ?_; refine zq ?_; refine nz ?_; (iterate 5 refine za ?_); refine zd ?_; refine AW.ret ?_; refine thenD_ret ?_; (all_goals skip); rotate_left)
        all_goals (apply ends_ret; (exact Res.five (.tmp rfl rfl) (.tmp rfl rfl) (.tmp rfl rfl) (.tmp rfl rfl) (.tmp rfl rfl)); (refine Le.tupL ?_; refine LeL.cons ?_ ?_; exact Le.pv _; refine LeL.cons ?_ ?_; exact Le.pv _; refine LeL.cons ?_ ?_; exact Le.pv _; refine LeL.cons ?_ ?_; exact Le.pv _; refine LeL.cons ?_ ?_; refine Le.litB ?_; (rfl); exact LeL.nil))
      · have hff : fits9 ⟨so, fs, pr, fa⟩ at' st = false := by
          cases hf : fits9 ⟨so, fs, pr, fa⟩ at' st with
          | false => rfl
          | true =>
            exfalso
            have h4 := (fits_more hf).1
            have e : at'.take k = at' := List.take_of_length_le (by omega)
            rw [e] at hx hn5
            exact h5 ⟨h4, hx, by omega, hf⟩
        rw [hff] at hfi
        (refine zo ?_; refine zq ?_; refine zm ?_; refine AOps.fieldAddrN 54 1 4 rfl rfl rfl rfl ?_; refine AOps.fieldAddrN 49 0 0 rfl rfl rfl rfl ?_; refine zb ?_; refine zn ?_; refine zs ?_; refine zm ?_; (focus ((with_reducible apply AOps.guardT); (iterate 6 exact rfl); all_goals intro hc_)); refine zm ?_; refine zt ?_; refine zs ?_; refine zT ?_; refine zd ?_; refine zk ?_; refine AW.exit ?_; (iterate 2 refine thenD_exit ?_); refine inBlockD_exit ?_; refine thenD_n ?_; refine zo ?_; refine zq ?_; refine nz ?_; refine zm ?_; refine AOps.gtr rfl rfl rfl rfl rfl ?_; refine zm ?_; refine zy ?_; refine AOps.fieldAddrN 54 0 0 rfl rfl rfl rfl ?_; refine zy ?_; (with_reducible apply AOps.load_bs); (iterate 3 exact rfl); (repeat' first | exact Sub.nil | apply Sub.take | apply Sub.skip); (iterate 3 exact rfl); refine zy ?_; refine AOps.fieldAddrN 54 1 4 rfl rfl rfl rfl ?_; refine zy ?_; (with_reducible apply AOps.load_bs); (iterate 3 exact rfl); (repeat' first | exact Sub.nil | apply Sub.take | apply Sub.skip); (iterate 3 exact rfl); refine zy ?_; refine zA (hfi) ?_; refine zy ?_; refine AOps.not rfl rfl rfl ?_; refine zF ?_; refine zd ?_; refine AW.cond_lt rfl rfl ?_; refine zq ?_; refine nz ?_; (iterate 5 refine za ?_); refine zd ?_; refine AW.ret ?_; refine thenD_ret ?_; (all_goals skip); rotate_left; refine AOps.guardTn rfl rfl rfl rfl rfl rfl (by with_reducible assumption) ?_; refine zF ?_; refine zd ?_; refine AW.cond_lf rfl rfl ?_; refine AW.exit ?_; (iterate 2 refine thenD_exit ?_); refine inBlockD_exit ?_; refine thenD_n ?_; refine zo ?_; refine zq ?_; refine nz ?_; refine zm ?_; refine AOps.gtr rfl rfl rfl rfl rfl ?_; refine zm ?_; refine zy ?_; refine AOps.fieldAddrN 54 0 0 rfl rfl rfl rfl ?_; refine zy ?_; (with_reducible apply AOps.load_bs); (iterate 3 exact rfl); (repeat' first | exact Sub.nil | apply Sub.take | apply Sub.skip); (iterate 3 exact rfl); refine zy ?_; refine AOps.fieldAddrN 54 1 4 rfl rfl rfl rfl ?_; refine zy ?_; (with_reducible apply AOps.load_bs); (iterate 3 exact rfl); (repeat' first | exact Sub.nil | apply Sub.take | apply Sub.skip); (iterate 3 exact rfl); refine zy ?_; refine zA (hfi) ?_; refine zy ?_; refine AOps.not rfl rfl rfl ?_; refine zF ?_; refine zd ?_; refine AW.cond_lt rfl rfl ?_; refine zq ?_; refine nz ?_; (iterate 5 refine za ?_); refine zd ?_; refine AW.ret ?_; refine thenD_ret ?_; (all_goals skip); rotate_left)
        all_goals (apply ends_ret; (exact Res.five (.tmp rfl rfl) (.tmp rfl rfl) (.tmp rfl rfl) (.tmp rfl rfl) (.tmp rfl rfl)); (refine Le.tupL ?_; refine LeL.cons ?_ ?_; exact Le.pv _; refine LeL.cons ?_ ?_; exact Le.pv _; refine LeL.cons ?_ ?_; exact Le.pv _; refine LeL.cons ?_ ?_; exact Le.pv _; refine LeL.cons ?_ ?_; refine Le.litB ?_; (rfl); exact LeL.nil))
end Go.Ab
/- Chapter 24: the law of breaking symmetries. -/
namespace Go.Ab
open Go Go.Proofs
open Nat (reduceAdd reduceSub)
set_option maxRecDepth 100000
set_option maxHeartbeats 16000000
theorem vars_len (o o' : Int) (st : Nat) (fr : List (Int × Int)) (vr : Int → Bool) : (varsM o st fr vr).length = (varsM o' st fr vr).length := by
  unfold varsM
  rw [List.length_append, List.length_append, selV_len, selV_len]
abbrev lf24 (s : SpecM) (m : Nat) (bs : List BndM) (p : List Int) : List Int := litV 0 p.length (arF s.fields) m (vrF s.fields) bs p
attribute [local irreducible] AW AOps thenD inBlockD AR iterEnds roundEndsN inlEnds noGotoD grpM varsM freeL brkM litV leadM evalG
end Go.Ab
/- Chapter 24: the number of input variables, walked. -/
namespace Go.Ab
open Go Go.Proofs Go.RowKit
open Nat (reduceAdd reduceSub)
set_option maxRecDepth 20000
set_option maxHeartbeats 8000000
attribute [local irreducible] AW AOps thenD inBlockD AR iterEnds roundEndsN inlEnds noGotoD selV stP varsM freeL
abbrev layO (so : List SortM) (fs : List FieldM) (pr fa : SlV) (at' : List Int) (st : Nat) (bs : List BndM) (fr : List (Int × Int)) : List (Nat × Option Ob) := [(4, some (.box [.pv (ints at'), litI (st : Int), .pv (.slice 2 (so.map encSo)), .pv (.slice 3 (fs.map encF)), slv pr, slv fa, .pv (bnds bs), .pv (prs fr)]))]
theorem sel_fn (so : List SortM) (fs : List FieldM) (pr fa : SlV) (at' : List Int) (st : Nat) (bs : List BndM) (fr : List (Int × Int)) : FnX Try.prog 72 5 (layO so fs pr fa at' st bs fr) [.ptr 4 0] (layO so fs pr fa at' st bs fr) (litI (selN st : Nat)) := by
  simp only [layO]
  by_cases h1 : 1 < st
  · rw [show selN st = st from if_pos h1]
    refine FnX.enter (n := 14) Try.func72 rfl rfl rfl rfl rfl (by decide) rfl rfl fun g hro_ hwt_ => ?_; (conv => rhs; simp only [Nf.en0, Nf.en1, Nf.pi0, Nf.pir, Nf.pib, Nf.pim, Nf.cn, Nf.nn, Nat.reduceAdd, Nat.zero_add])
    (refine zq ?_; refine za ?_; refine zd ?_; refine zo ?_; refine zq ?_; refine nz ?_; refine AOps.move_ptr rfl rfl rfl ?_; refine AOps.nilCheck_ptr rfl rfl rfl ?_; refine AOps.fieldAddrN 134 0 0 rfl rfl rfl rfl ?_; refine AOps.fieldAddrN 49 1 1 rfl rfl rfl rfl ?_; refine zb ?_; refine AOps.gtr rfl rfl rfl rfl rfl ?_; refine zd ?_; refine zc ?_; refine zq ?_; refine nz ?_; refine AOps.move_ptr rfl rfl rfl ?_; refine AOps.nilCheck_ptr rfl rfl rfl ?_; refine AOps.fieldAddrN 134 0 0 rfl rfl rfl rfl ?_; refine AOps.fieldAddrN 49 1 1 rfl rfl rfl rfl ?_; refine zb ?_; refine za ?_; refine zd ?_; refine AW.ret ?_; refine thenD_ret ?_)
    (apply endsX_ret; ((exact Res.one (.tmp rfl rfl))); ((refine ⟨.intE (by first | with_reducible rfl | (rfl)), ?_⟩; refine ⟨.eq rfl rfl, ?_⟩; exact trivial)); ((refine ⟨.box _ rfl ?_, ?_⟩; refine ⟨.pvE (by first | with_reducible rfl | (rfl)), ?_⟩; refine ⟨.intE (by first | with_reducible rfl | (rfl)), ?_⟩; (iterate 2 refine ⟨.pvE (by first | with_reducible rfl | (rfl)), ?_⟩); (iterate 2 refine ⟨.eq rfl rfl, ?_⟩); (iterate 2 refine ⟨.pvE (by first | with_reducible rfl | (rfl)), ?_⟩); (iterate 2 exact trivial))); exact rfl)
  · rw [show selN st = 0 from if_neg h1]
    refine FnX.enter (n := 14) Try.func72 rfl rfl rfl rfl rfl (by decide) rfl rfl fun g hro_ hwt_ => ?_; (conv => rhs; simp only [Nf.en0, Nf.en1, Nf.pi0, Nf.pir, Nf.pib, Nf.pim, Nf.cn, Nf.nn, Nat.reduceAdd, Nat.zero_add])
    (refine zq ?_; refine za ?_; refine zd ?_; refine zo ?_; refine zq ?_; refine nz ?_; refine AOps.move_ptr rfl rfl rfl ?_; refine AOps.nilCheck_ptr rfl rfl rfl ?_; refine AOps.fieldAddrN 134 0 0 rfl rfl rfl rfl ?_; refine AOps.fieldAddrN 49 1 1 rfl rfl rfl rfl ?_; refine zb ?_; refine AOps.gtr rfl rfl rfl rfl rfl ?_; refine zd ?_; refine zk ?_; refine AW.skip ?_; refine thenD_n ?_; refine zq ?_; refine nz ?_; refine za ?_; refine zd ?_; refine AW.ret ?_)
    (apply endsX_ret; ((exact Res.one (.tmp rfl rfl))); ((refine ⟨.intE (by first | with_reducible rfl | (rfl)), ?_⟩; refine ⟨.eq rfl rfl, ?_⟩; exact trivial)); ((refine ⟨.box _ rfl ?_, ?_⟩; refine ⟨.pvE (by first | with_reducible rfl | (rfl)), ?_⟩; refine ⟨.intE (by first | with_reducible rfl | (rfl)), ?_⟩; (iterate 2 refine ⟨.pvE (by first | with_reducible rfl | (rfl)), ?_⟩); (iterate 2 refine ⟨.eq rfl rfl, ?_⟩); (iterate 2 refine ⟨.pvE (by first | with_reducible rfl | (rfl)), ?_⟩); (iterate 2 exact trivial))); exact rfl)
theorem inputs_fn (s : SpecM) (at' : List Int) (st : Nat) (bs : List BndM) (p : List Int) (h : LitOk s st bs p) : Fn Try.prog 24 [spc s, scp at' (st : Int), .pv (bnds bs)] (litI ((varsM 0 st (freeL 0 bs) (vrF s.fields)).length : Nat)) := by
  have hst1 := h.stb.1
  have hst2 := h.stb.2
  have hfree := free_fn bs (by have := h.nb.2; omega) (fun x hx => by have := h.sm x hx; exact ⟨by omega, by omega, this.2.2⟩)
  have hfl := lit_frl h
  have hfd : ∀ (k : Nat) (hk : k < (freeL 0 bs).length), 0 ≤ (freeL 0 bs)[k].1 ∧ ∃ hh : (freeL 0 bs)[k].1.toNat < s.fields.length, vrF s.fields (freeL 0 bs)[k].1 = s.fields[(freeL 0 bs)[k].1.toNat].var := fun k hk => by
    obtain ⟨j, hj, h1, _⟩ := freeL_mem (List.getElem_mem hk)
    have hnb : bs.length = s.fields.length := h.nb.1
    refine ⟨by omega, by omega, ?_⟩
    unfold vrF
    rw [getD_of (by omega)]
  clear h
  obtain ⟨so, fs, pr, fa⟩ := s
  simp only at *
  rw [← stP_end]
  generalize vrF fs = vr at hfd ⊢
  generalize freeL 0 bs = fr at hfree hfl hfd ⊢
  have hlen : ∀ s k, s ≤ st → (stP 0 st fr vr s k).length ≤ 6000000 := fun s k hs => by
    have h1 := stP_len (o := 0) (fr := fr) (vr := vr) (k := k) hs
    have h2 : (s + 1) * fr.length ≤ 5 * 1000000 := Nat.mul_le_mul (by omega) hfl
    omega
  have h00 : (stP 0 st fr vr 0 0).length = selN st := by rw [stP_start, selV_len]
  have hsel := sel_fn so fs pr fa at' st bs fr
  simp only [layO] at hsel
  refine Fn.enter (n := 12) Try.func24 rfl rfl rfl rfl rfl (by decide) fun g hro_ hwt_ => ?_; (try refine nz ?_)
  (refine zq ?_; refine AOps.box rfl rfl rfl rfl ?_; refine nz ?_; refine AOps.box rfl rfl rfl rfl ?_; refine nz ?_; refine za ?_; refine zd ?_; refine zq ?_; refine nz ?_; refine zL ?_; refine nz ?_; refine zL ?_; refine nz ?_; refine zm ?_; (with_reducible apply AOps.inline (hf := Try.func47)); (with_reducible assumption); (iterate 10 exact rfl); intro g_ hro_ hwt_; refine nz ?_; refine zq ?_; refine AOps.box rfl rfl rfl rfl ?_; refine nz ?_; refine AOps.box rfl rfl rfl rfl ?_; refine nz ?_; refine za ?_; refine zd ?_; refine zo ?_; refine AW.regionM [0, 1, 2, 3] [] rfl (by assumption) (by kernel_rfl) (by kernel_rfl) rfl ?_; show AOps .held _ _ _ [_, _, _, _] _ _; refine zL ?_; refine nz ?_; refine zL ?_; refine nz ?_; (iterate 2 refine zm ?_); refine AOps.nil ?_; refine onlyN_n ?_; intro k_ hk_; refine nz ?_; refine AR.step1M (i := 4) rfl (by kernel_rfl) rfl ?_; intro g_ hgro_ hw_; refine zP (hfree) ?_; refine AOps.nil ?_; refine onlyN_n ?_; refine AR.free 5 (by kernel_rfl) rfl rfl rfl (Frees.build 134 [0, 2, 6, 7] rfl rfl rfl rfl rfl rfl rfl rfl) ?_; (try refine nz ?_); refine AR.step1M (i := 6) rfl (by kernel_rfl) rfl ?_; intro g_ hgro_ hw_; refine AOps.box rfl rfl rfl rfl ?_; refine nz ?_; refine AOps.nil ?_; refine onlyN_n ?_; refine AR.readsM [7] (by kernel_rfl) (by kernel_rfl) (by kernel_rfl) (by kernel_rfl) ?_; intro g_ hgro_; show AOps .held _ _ _ [_] _ _; refine AOps.assign_ptr rfl rfl rfl ?_; refine AOps.nil ?_; refine onlyN_n ?_; intro k_ hk_; refine nz ?_; refine AR.doneM (by assumption) (by kernel_rfl) ?_; refine thenD_n ?_; refine AW.ret ?_; refine inlEnds_rptr rfl rfl ?_; refine nz ?_; (with_reducible apply AOps.inline (hf := Try.func48)); (with_reducible assumption); (iterate 10 exact rfl); intro g_ hro_ hwt_; refine nz ?_; refine zq ?_; refine za ?_; refine zd ?_; refine zq ?_; refine nz ?_; refine AOps.move_ptr rfl rfl rfl ?_; refine zX (hsel) ?_; refine nx ?_; refine nz ?_; refine AOps.allocN' rfl rfl rfl rfl ?_; refine nz ?_; refine AOps.store_b1 rfl rfl rfl rfl rfl rfl rfl rfl rfl (by with_reducible assumption) ?_; refine nz ?_; refine zd ?_; refine zo ?_; refine zq ?_; refine AOps.move_ptr rfl rfl rfl ?_; refine AOps.makeFunc_f rfl rfl rfl ?_; refine zd ?_; refine AW.block ?_)
  refine AW.rangeFuncUH (ps := [9]) (by assumption) (by assumption) rfl rfl Try.func73 rfl rfl rfl rfl rfl rfl (by decide) ?_
  intro gB tm0 l0 ps0 asg0 body0 hcode0 hroB hwtB hheld0 hupB htm0
  have htm0' : tm0.size = 13 := htm0
  (refine zq ?_; refine nz ?_; refine AOps.move_ptr rfl rfl rfl ?_; refine zX (hsel) ?_; refine nx ?_; refine nz ?_; refine za ?_; refine zd ?_; refine zq ?_; refine nz ?_; refine AOps.move_ptr rfl rfl rfl ?_; refine AOps.nilCheck_ptr rfl rfl rfl ?_; refine AOps.fieldAddrN 134 0 0 rfl rfl rfl rfl ?_; refine AOps.fieldAddrN 49 1 1 rfl rfl rfl rfl ?_; refine zb ?_; refine zm ?_; refine zd ?_; refine AW.block ?_)
  (refine nz ?_; apply AW.loopR [14, 0, 1, 1008, 1007, 1003, 1006, 1002, 1000, 2010, 2009, 2008, 2007, 2006, 2004, 2003, 2002] [4, 6, 3, 2, 1, 0] (fun s : Nat => ([(15, litI s), (4, litI ((stP 0 st fr vr s 0).length : Nat))] : List (Nat × AV))) (fun s : Nat => ([(5, some (.box [litI ((stP 0 st fr vr s 0).length : Nat)]))] : List (Nat × Option Ob))) (fun s : Nat => s ≤ st) (fun s : Nat => st - s) (0); (conv => lhs; simp only [Nf.lpR, Nf.all, Nat.reduceBEq, reduceAdd, reduceSub]); (all_goals skip))
  · exact Nat.zero_le _
  · rw [h00]
    exact weak rfl (by (first | (refine ⟨.eq rfl rfl, ?_⟩; (iterate 22 refine ⟨.eq rfl rfl, ?_⟩); exact trivial) | (refine ⟨.eq rfl rfl, ?_⟩; (iterate 18 refine ⟨.eq rfl rfl, ?_⟩); exact trivial))) (by (refine ⟨.box _ rfl ?_, ?_⟩; refine ⟨.eq rfl rfl, ?_⟩; exact trivial; refine ⟨.box _ rfl ?_, ?_⟩; (iterate 8 refine ⟨.eq rfl rfl, ?_⟩); exact trivial; refine ⟨.loop rfl, ?_⟩; refine ⟨.box _ rfl ?_, ?_⟩; (iterate 2 refine ⟨.eq rfl rfl, ?_⟩); exact trivial; refine ⟨.box _ rfl ?_, ?_⟩; (iterate 4 refine ⟨.eq rfl rfl, ?_⟩); exact trivial; refine ⟨.box _ rfl ?_, ?_⟩; (iterate 2 refine ⟨.eq rfl rfl, ?_⟩); exact trivial; refine ⟨.box _ rfl ?_, ?_⟩; (iterate 4 refine ⟨.eq rfl rfl, ?_⟩); (iterate 2 exact trivial))) rfl
  rintro s hs
  by_cases hlt : s < st
  · (refine zq ?_; refine zs ?_; refine zd ?_; refine zo ?_; refine zc ?_; refine AW.skip ?_; refine thenD_n ?_; refine zo ?_; refine AW.block ?_; refine zq ?_; refine nz ?_; refine zm ?_; refine za ?_; refine zd ?_; refine zq ?_; refine nz ?_; refine AOps.move_ptr rfl rfl rfl ?_; refine AOps.nilCheck_ptr rfl rfl rfl ?_; refine AOps.fieldAddrN 134 3 7 rfl rfl rfl rfl ?_; refine zb ?_; refine zn ?_; refine zm ?_; refine zd ?_; refine AW.block ?_)
    (refine nz ?_; apply AW.loopR [22, 21, 5, 15, 14, 0, 1, 1008, 1007, 1003, 1006, 1002, 1000, 2010, 2009, 2008, 2007, 2006, 2004, 2003, 2002] [4, 6, 3, 2, 1, 0] (fun k : Nat => ([(23, litI k), (4, litI ((stP 0 st fr vr s k).length : Nat))] : List (Nat × AV))) (fun k : Nat => ([(5, some (.box [litI ((stP 0 st fr vr s k).length : Nat)]))] : List (Nat × Option Ob))) (fun k : Nat => k ≤ fr.length) (fun k : Nat => fr.length - k) (0); (conv => lhs; simp only [Nf.lpR, Nf.all, Nat.reduceBEq, reduceAdd, reduceSub]); (all_goals skip))
    · exact Nat.zero_le _
    · exact weak rfl (by (first | (refine ⟨.eq rfl rfl, ?_⟩; (iterate 22 refine ⟨.eq rfl rfl, ?_⟩); exact trivial) | (refine ⟨.eq rfl rfl, ?_⟩; (iterate 18 refine ⟨.eq rfl rfl, ?_⟩); exact trivial))) (by (refine ⟨.box _ rfl ?_, ?_⟩; refine ⟨.eq rfl rfl, ?_⟩; exact trivial; refine ⟨.box _ rfl ?_, ?_⟩; (iterate 8 refine ⟨.eq rfl rfl, ?_⟩); exact trivial; refine ⟨.loop rfl, ?_⟩; refine ⟨.box _ rfl ?_, ?_⟩; (iterate 2 refine ⟨.eq rfl rfl, ?_⟩); exact trivial; refine ⟨.box _ rfl ?_, ?_⟩; (iterate 4 refine ⟨.eq rfl rfl, ?_⟩); exact trivial; refine ⟨.box _ rfl ?_, ?_⟩; (iterate 2 refine ⟨.eq rfl rfl, ?_⟩); exact trivial; refine ⟨.box _ rfl ?_, ?_⟩; (iterate 4 refine ⟨.eq rfl rfl, ?_⟩); (iterate 2 exact trivial))) rfl
    rintro k hk
    have hln := hlen s k hs
    by_cases hlt2 : k < fr.length
    · obtain ⟨hf0, hf1, hf2⟩ := hfd k hlt2
      have hlit := lenP (o := 0) (st := st) (vr := vr) s hlt2
      by_cases h0 : s = 0
      · have hlit := hlit (.inl h0)
        (refine zq ?_; refine zs ?_; refine zd ?_; refine zo ?_; refine zc ?_; refine AW.skip ?_; refine thenD_n ?_; refine zo ?_; refine AW.block ?_; refine zq ?_; refine nz ?_; (focus ((with_reducible apply AOps.index_map); (iterate 7 exact rfl); rotate_left; omega)); refine AOps.load_rn rfl rfl rfl rfl ?_; refine nz ?_; refine AOps.allocN' rfl rfl rfl rfl ?_; refine nz ?_; refine zB ?_; refine nz ?_; refine zd ?_; (iterate 2 refine zo ?_); (with_reducible apply AW.regionQ); exact rfl; exact rfl; kernel_rfl; (with_reducible assumption); refine zm ?_; refine AOps.gtr rfl rfl rfl rfl rfl ?_; refine zm ?_; (iterate 11 refine AOps.guardTn rfl rfl rfl rfl rfl rfl (by first | omega | decide) ?_); refine zF ?_; refine zd ?_; refine AW.cond_lf rfl rfl ?_; refine AW.skip ?_; refine thenD_n ?_; refine zq ?_; refine nz ?_; refine zm ?_; refine zj ?_; refine za ?_; refine zd ?_; refine zq ?_; refine nz ?_; refine AOps.move rfl rfl rfl ?_; refine nz ?_; (iterate 2 refine zm ?_); refine AOps.indexA_p 124 0 1 0 rfl rfl (by kernel_rfl) rfl rfl rfl rfl ?_; refine nz ?_; refine zb ?_; refine AOps.indexA_p 124 1 1 1 rfl rfl (by kernel_rfl) rfl rfl rfl rfl ?_; refine nz ?_; refine zb ?_; refine AOps.buildN 137 [0, 1, 2, 3] rfl rfl rfl rfl rfl rfl rfl rfl rfl ?_; refine nz ?_; (with_reducible apply AOps.yieldN0 hcode0 hwtB hheld0 htm0'); (iterate 8 exact rfl); intro gR hroR_ hwtR hupR; (try refine nz ?_); refine AW.region ?_; refine AOps.allocN' rfl rfl rfl rfl ?_; refine nz ?_; refine zB ?_; refine nz ?_; refine zd ?_; refine And.intro (show isLp _ _ _ _ from ⟨_, _, _, _, rfl⟩) ?_; (try refine nz ?_); refine AW.block ?_; refine AW.region ?_; refine AOps.fieldAddrN 137 0 0 rfl rfl rfl rfl ?_; refine zb ?_; refine AOps.store_b1 rfl rfl rfl rfl rfl rfl rfl rfl rfl (by with_reducible assumption) ?_; refine nz ?_; refine AOps.nil ?_; refine inBlockD_n ?_; (with_reducible apply roundEndsN_n); exact ⟨_, _, _, _, rfl⟩; refine nz ?_; refine AOps.not rfl rfl rfl ?_; refine zd ?_; refine AW.cond_lf rfl rfl ?_; refine AW.skip ?_; refine inBlockD_n ?_; refine thenD_n ?_; refine AW.region ?_; refine nz ?_; refine zj ?_; refine zm ?_; refine zd ?_)
        exact ⟨k + 1, by omega, by omega, weak rfl (by (refine ⟨.intE (by first | with_reducible rfl | (first | rfl | (rw [hlit]))), ?_⟩; refine ⟨.intE (by first | with_reducible rfl | (first | rfl | (rw [hlit]))), ?_⟩; refine ⟨.intE (by first | with_reducible rfl | (first | rfl | (rw [hlit]))), ?_⟩; refine ⟨.pvE (by first | with_reducible rfl | (first | rfl | (rw [hlit]))), ?_⟩; refine ⟨.intE (by first | with_reducible rfl | (first | rfl | (rw [hlit]))), ?_⟩; refine ⟨.intE (by first | with_reducible rfl | (first | rfl | (rw [hlit]))), ?_⟩; refine ⟨.intE (by first | with_reducible rfl | (first | rfl | (rw [hlit]))), ?_⟩; (iterate 5 refine ⟨.eq rfl rfl, ?_⟩); refine ⟨.intE (by first | with_reducible rfl | (first | rfl | (rw [hlit]))), ?_⟩; refine ⟨.intE (by first | with_reducible rfl | (first | rfl | (rw [hlit]))), ?_⟩; (iterate 2 refine ⟨.eq rfl rfl, ?_⟩); refine ⟨.pvE (by first | with_reducible rfl | (first | rfl | (rw [hlit]))), ?_⟩; (iterate 2 refine ⟨.eq rfl rfl, ?_⟩); refine ⟨.intE (by first | with_reducible rfl | (first | rfl | (rw [hlit]))), ?_⟩; (iterate 2 refine ⟨.eq rfl rfl, ?_⟩); refine ⟨.pvE (by first | with_reducible rfl | (first | rfl | (rw [hlit]))), ?_⟩; exact trivial)) (by (refine ⟨.box _ rfl ?_, ?_⟩; refine ⟨.intE (by first | with_reducible rfl | (first | rfl | (rw [hlit]))), ?_⟩; exact trivial; refine ⟨.box _ rfl ?_, ?_⟩; refine ⟨.pvE (by first | with_reducible rfl | (first | rfl | (rw [hlit]))), ?_⟩; refine ⟨.intE (by first | with_reducible rfl | (first | rfl | (rw [hlit]))), ?_⟩; refine ⟨.pvE (by first | with_reducible rfl | (first | rfl | (rw [hlit]))), ?_⟩; refine ⟨.pvE (by first | with_reducible rfl | (first | rfl | (rw [hlit]))), ?_⟩; (iterate 2 refine ⟨.eq rfl rfl, ?_⟩); refine ⟨.pvE (by first | with_reducible rfl | (first | rfl | (rw [hlit]))), ?_⟩; refine ⟨.pvE (by first | with_reducible rfl | (first | rfl | (rw [hlit]))), ?_⟩; exact trivial; refine ⟨.loop rfl, ?_⟩; refine ⟨.box _ rfl ?_, ?_⟩; refine ⟨.pvE (by first | with_reducible rfl | (first | rfl | (rw [hlit]))), ?_⟩; refine ⟨.intE (by first | with_reducible rfl | (first | rfl | (rw [hlit]))), ?_⟩; exact trivial; refine ⟨.box _ rfl ?_, ?_⟩; refine ⟨.pvE (by first | with_reducible rfl | (first | rfl | (rw [hlit]))), ?_⟩; refine ⟨.pvE (by first | with_reducible rfl | (first | rfl | (rw [hlit]))), ?_⟩; (iterate 2 refine ⟨.eq rfl rfl, ?_⟩); exact trivial; refine ⟨.box _ rfl ?_, ?_⟩; refine ⟨.pvE (by first | with_reducible rfl | (first | rfl | (rw [hlit]))), ?_⟩; refine ⟨.intE (by first | with_reducible rfl | (first | rfl | (rw [hlit]))), ?_⟩; exact trivial; refine ⟨.box _ rfl ?_, ?_⟩; refine ⟨.pvE (by first | with_reducible rfl | (first | rfl | (rw [hlit]))), ?_⟩; refine ⟨.pvE (by first | with_reducible rfl | (first | rfl | (rw [hlit]))), ?_⟩; (iterate 2 refine ⟨.eq rfl rfl, ?_⟩); (iterate 2 exact trivial))) rfl⟩
      · cases hb : fs[fr[k].1.toNat].var with
        | true =>
          have hlit := hlit (.inr (hf2.trans hb))
          have hb' : (!fs[fr[k].1.toNat].var) = false := by rw [hb]; rfl
          (refine zq ?_; refine zs ?_; refine zd ?_; refine zo ?_; refine zc ?_; refine AW.skip ?_; refine thenD_n ?_; refine zo ?_; refine AW.block ?_; refine zq ?_; refine nz ?_; (focus ((with_reducible apply AOps.index_map); (iterate 7 exact rfl); rotate_left; omega)); refine AOps.load_rn rfl rfl rfl rfl ?_; refine nz ?_; refine AOps.allocN' rfl rfl rfl rfl ?_; refine nz ?_; refine zB ?_; refine nz ?_; refine zd ?_; (iterate 2 refine zo ?_); (with_reducible apply AW.regionQ); exact rfl; exact rfl; kernel_rfl; (with_reducible assumption); refine zm ?_; refine AOps.gtr rfl rfl rfl rfl rfl ?_; refine zm ?_; refine zt ?_; refine AOps.move_ptr rfl rfl rfl ?_; refine zt ?_; refine AOps.nilCheck_ptr rfl rfl rfl ?_; refine zt ?_; refine AOps.fieldAddrN 134 1 2 rfl rfl rfl rfl ?_; refine zt ?_; refine AOps.fieldAddrN 47 1 1 rfl rfl rfl rfl ?_; refine zt ?_; refine zb ?_; refine zt ?_; refine AOps.indexA_p 124 0 1 0 rfl rfl (by kernel_rfl) rfl rfl rfl rfl ?_; refine nz ?_; refine zt ?_; refine zb ?_; refine zt ?_; (focus ((with_reducible apply AOps.index_mapI); (iterate 7 exact rfl); omega; rotate_left; (first | omega | exact Nat.zero_lt_one | exact (by simp)))); refine zt ?_; refine AOps.fieldAddr_rN 71 2 2 1 rfl rfl rfl rfl ?_; refine nz ?_; refine zt ?_; refine zr ?_; refine zt ?_; refine AOps.not rfl rfl rfl ?_; refine zT ?_; refine zd ?_; refine AW.condNb rfl rfl (by assumption) ?_; refine AW.skip ?_; refine thenD_n ?_; refine zq ?_; refine nz ?_; refine zm ?_; refine zj ?_; refine za ?_; refine zd ?_; refine zq ?_; refine nz ?_; refine AOps.move rfl rfl rfl ?_; refine nz ?_; (iterate 2 refine zm ?_); refine AOps.indexA_p 124 0 1 0 rfl rfl (by kernel_rfl) rfl rfl rfl rfl ?_; refine nz ?_; refine zb ?_; refine AOps.indexA_p 124 1 1 1 rfl rfl (by kernel_rfl) rfl rfl rfl rfl ?_; refine nz ?_; refine zb ?_; refine AOps.buildN 137 [0, 1, 2, 3] rfl rfl rfl rfl rfl rfl rfl rfl rfl ?_; refine nz ?_; (with_reducible apply AOps.yieldN0 hcode0 hwtB hheld0 htm0'); (iterate 8 exact rfl); intro gR hroR_ hwtR hupR; (try refine nz ?_); refine AW.region ?_; refine AOps.allocN' rfl rfl rfl rfl ?_; refine nz ?_; refine zB ?_; refine nz ?_; refine zd ?_; refine And.intro (show isLp _ _ _ _ from ⟨_, _, _, _, rfl⟩) ?_; (try refine nz ?_); refine AW.block ?_; refine AW.region ?_; refine AOps.fieldAddrN 137 0 0 rfl rfl rfl rfl ?_; refine zb ?_; refine AOps.store_b1 rfl rfl rfl rfl rfl rfl rfl rfl rfl (by with_reducible assumption) ?_; refine nz ?_; refine AOps.nil ?_; refine inBlockD_n ?_; (with_reducible apply roundEndsN_n); exact ⟨_, _, _, _, rfl⟩; refine nz ?_; refine AOps.not rfl rfl rfl ?_; refine zd ?_; refine AW.cond_lf rfl rfl ?_; refine AW.skip ?_; refine inBlockD_n ?_; refine thenD_n ?_; refine AW.region ?_; refine nz ?_; refine zj ?_; refine zm ?_; refine zd ?_)
          exact ⟨k + 1, by omega, by omega, weak rfl (by (refine ⟨.intE (by first | with_reducible rfl | (first | rfl | (rw [hlit]))), ?_⟩; refine ⟨.intE (by first | with_reducible rfl | (first | rfl | (rw [hlit]))), ?_⟩; refine ⟨.intE (by first | with_reducible rfl | (first | rfl | (rw [hlit]))), ?_⟩; refine ⟨.pvE (by first | with_reducible rfl | (first | rfl | (rw [hlit]))), ?_⟩; refine ⟨.intE (by first | with_reducible rfl | (first | rfl | (rw [hlit]))), ?_⟩; refine ⟨.intE (by first | with_reducible rfl | (first | rfl | (rw [hlit]))), ?_⟩; refine ⟨.intE (by first | with_reducible rfl | (first | rfl | (rw [hlit]))), ?_⟩; (iterate 5 refine ⟨.eq rfl rfl, ?_⟩); refine ⟨.intE (by first | with_reducible rfl | (first | rfl | (rw [hlit]))), ?_⟩; refine ⟨.intE (by first | with_reducible rfl | (first | rfl | (rw [hlit]))), ?_⟩; (iterate 2 refine ⟨.eq rfl rfl, ?_⟩); refine ⟨.pvE (by first | with_reducible rfl | (first | rfl | (rw [hlit]))), ?_⟩; (iterate 2 refine ⟨.eq rfl rfl, ?_⟩); refine ⟨.intE (by first | with_reducible rfl | (first | rfl | (rw [hlit]))), ?_⟩; (iterate 2 refine ⟨.eq rfl rfl, ?_⟩); refine ⟨.pvE (by first | with_reducible rfl | (first | rfl | (rw [hlit]))), ?_⟩; exact trivial)) (by (refine ⟨.box _ rfl ?_, ?_⟩; refine ⟨.intE (by first | with_reducible rfl | (first | rfl | (rw [hlit]))), ?_⟩; exact trivial; refine ⟨.box _ rfl ?_, ?_⟩; refine ⟨.pvE (by first | with_reducible rfl | (first | rfl | (rw [hlit]))), ?_⟩; refine ⟨.intE (by first | with_reducible rfl | (first | rfl | (rw [hlit]))), ?_⟩; refine ⟨.pvE (by first | with_reducible rfl | (first | rfl | (rw [hlit]))), ?_⟩; refine ⟨.pvE (by first | with_reducible rfl | (first | rfl | (rw [hlit]))), ?_⟩; (iterate 2 refine ⟨.eq rfl rfl, ?_⟩); refine ⟨.pvE (by first | with_reducible rfl | (first | rfl | (rw [hlit]))), ?_⟩; refine ⟨.pvE (by first | with_reducible rfl | (first | rfl | (rw [hlit]))), ?_⟩; exact trivial; refine ⟨.loop rfl, ?_⟩; refine ⟨.box _ rfl ?_, ?_⟩; refine ⟨.pvE (by first | with_reducible rfl | (first | rfl | (rw [hlit]))), ?_⟩; refine ⟨.intE (by first | with_reducible rfl | (first | rfl | (rw [hlit]))), ?_⟩; exact trivial; refine ⟨.box _ rfl ?_, ?_⟩; refine ⟨.pvE (by first | with_reducible rfl | (first | rfl | (rw [hlit]))), ?_⟩; refine ⟨.pvE (by first | with_reducible rfl | (first | rfl | (rw [hlit]))), ?_⟩; (iterate 2 refine ⟨.eq rfl rfl, ?_⟩); exact trivial; refine ⟨.box _ rfl ?_, ?_⟩; refine ⟨.pvE (by first | with_reducible rfl | (first | rfl | (rw [hlit]))), ?_⟩; refine ⟨.intE (by first | with_reducible rfl | (first | rfl | (rw [hlit]))), ?_⟩; exact trivial; refine ⟨.box _ rfl ?_, ?_⟩; refine ⟨.pvE (by first | with_reducible rfl | (first | rfl | (rw [hlit]))), ?_⟩; refine ⟨.pvE (by first | with_reducible rfl | (first | rfl | (rw [hlit]))), ?_⟩; (iterate 2 refine ⟨.eq rfl rfl, ?_⟩); (iterate 2 exact trivial))) rfl⟩
        | false =>
          have hst := stayP (o := 0) (st := st) (vr := vr) s hlt2 (fun h => h.elim h0 fun h => by rw [hf2.trans hb] at h; cases h)
          have hb' : (!fs[fr[k].1.toNat].var) = true := by rw [hb]; rfl
          (refine zq ?_; refine zs ?_; refine zd ?_; refine zo ?_; refine zc ?_; refine AW.skip ?_; refine thenD_n ?_; refine zo ?_; refine AW.block ?_; refine zq ?_; refine nz ?_; (focus ((with_reducible apply AOps.index_map); (iterate 7 exact rfl); rotate_left; omega)); refine AOps.load_rn rfl rfl rfl rfl ?_; refine nz ?_; refine AOps.allocN' rfl rfl rfl rfl ?_; refine nz ?_; refine zB ?_; refine nz ?_; refine zd ?_; (iterate 2 refine zo ?_); (with_reducible apply AW.regionQ); exact rfl; exact rfl; kernel_rfl; (with_reducible assumption); refine zm ?_; refine AOps.gtr rfl rfl rfl rfl rfl ?_; refine zm ?_; refine zt ?_; refine AOps.move_ptr rfl rfl rfl ?_; refine zt ?_; refine AOps.nilCheck_ptr rfl rfl rfl ?_; refine zt ?_; refine AOps.fieldAddrN 134 1 2 rfl rfl rfl rfl ?_; refine zt ?_; refine AOps.fieldAddrN 47 1 1 rfl rfl rfl rfl ?_; refine zt ?_; refine zb ?_; refine zt ?_; refine AOps.indexA_p 124 0 1 0 rfl rfl (by kernel_rfl) rfl rfl rfl rfl ?_; refine nz ?_; refine zt ?_; refine zb ?_; refine zt ?_; (focus ((with_reducible apply AOps.index_mapI); (iterate 7 exact rfl); omega; rotate_left; (first | omega | exact Nat.zero_lt_one | exact (by simp)))); refine zt ?_; refine AOps.fieldAddr_rN 71 2 2 1 rfl rfl rfl rfl ?_; refine nz ?_; refine zt ?_; refine zr ?_; refine zt ?_; refine AOps.not rfl rfl rfl ?_; refine zT ?_; refine zd ?_; refine AW.condYb rfl rfl (by assumption) ?_; refine AW.exit ?_; refine thenD_exit ?_; refine inBlockD_exit ?_; refine thenD_n ?_; refine AW.region ?_; refine nz ?_; refine zj ?_; refine zm ?_; refine zd ?_)
          exact ⟨k + 1, by omega, by omega, weak rfl (by (refine ⟨.intE (by first | with_reducible rfl | (first | rfl | (rw [hst]))), ?_⟩; refine ⟨.intE (by first | with_reducible rfl | (first | rfl | (rw [hst]))), ?_⟩; refine ⟨.intE (by first | with_reducible rfl | (first | rfl | (rw [hst]))), ?_⟩; refine ⟨.pvE (by first | with_reducible rfl | (first | rfl | (rw [hst]))), ?_⟩; refine ⟨.intE (by first | with_reducible rfl | (first | rfl | (rw [hst]))), ?_⟩; refine ⟨.intE (by first | with_reducible rfl | (first | rfl | (rw [hst]))), ?_⟩; refine ⟨.intE (by first | with_reducible rfl | (first | rfl | (rw [hst]))), ?_⟩; (iterate 5 refine ⟨.eq rfl rfl, ?_⟩); refine ⟨.intE (by first | with_reducible rfl | (first | rfl | (rw [hst]))), ?_⟩; refine ⟨.intE (by first | with_reducible rfl | (first | rfl | (rw [hst]))), ?_⟩; (iterate 2 refine ⟨.eq rfl rfl, ?_⟩); refine ⟨.pvE (by first | with_reducible rfl | (first | rfl | (rw [hst]))), ?_⟩; (iterate 2 refine ⟨.eq rfl rfl, ?_⟩); refine ⟨.intE (by first | with_reducible rfl | (first | rfl | (rw [hst]))), ?_⟩; (iterate 2 refine ⟨.eq rfl rfl, ?_⟩); refine ⟨.pvE (by first | with_reducible rfl | (first | rfl | (rw [hst]))), ?_⟩; exact trivial)) (by (refine ⟨.box _ rfl ?_, ?_⟩; refine ⟨.intE (by first | with_reducible rfl | (first | rfl | (rw [hst]))), ?_⟩; exact trivial; refine ⟨.box _ rfl ?_, ?_⟩; refine ⟨.pvE (by first | with_reducible rfl | (first | rfl | (rw [hst]))), ?_⟩; refine ⟨.intE (by first | with_reducible rfl | (first | rfl | (rw [hst]))), ?_⟩; refine ⟨.pvE (by first | with_reducible rfl | (first | rfl | (rw [hst]))), ?_⟩; refine ⟨.pvE (by first | with_reducible rfl | (first | rfl | (rw [hst]))), ?_⟩; (iterate 2 refine ⟨.eq rfl rfl, ?_⟩); refine ⟨.pvE (by first | with_reducible rfl | (first | rfl | (rw [hst]))), ?_⟩; refine ⟨.pvE (by first | with_reducible rfl | (first | rfl | (rw [hst]))), ?_⟩; exact trivial; refine ⟨.loop rfl, ?_⟩; refine ⟨.box _ rfl ?_, ?_⟩; refine ⟨.pvE (by first | with_reducible rfl | (first | rfl | (rw [hst]))), ?_⟩; refine ⟨.intE (by first | with_reducible rfl | (first | rfl | (rw [hst]))), ?_⟩; exact trivial; refine ⟨.box _ rfl ?_, ?_⟩; refine ⟨.pvE (by first | with_reducible rfl | (first | rfl | (rw [hst]))), ?_⟩; refine ⟨.pvE (by first | with_reducible rfl | (first | rfl | (rw [hst]))), ?_⟩; (iterate 2 refine ⟨.eq rfl rfl, ?_⟩); exact trivial; refine ⟨.box _ rfl ?_, ?_⟩; refine ⟨.pvE (by first | with_reducible rfl | (first | rfl | (rw [hst]))), ?_⟩; refine ⟨.intE (by first | with_reducible rfl | (first | rfl | (rw [hst]))), ?_⟩; exact trivial; refine ⟨.box _ rfl ?_, ?_⟩; refine ⟨.pvE (by first | with_reducible rfl | (first | rfl | (rw [hst]))), ?_⟩; refine ⟨.pvE (by first | with_reducible rfl | (first | rfl | (rw [hst]))), ?_⟩; (iterate 2 refine ⟨.eq rfl rfl, ?_⟩); (iterate 2 exact trivial))) rfl⟩
    · obtain rfl : k = fr.length := by omega
      have hnx := stP_next 0 st fr vr s
      (refine zq ?_; refine zs ?_; refine zd ?_; refine zo ?_; refine zk ?_; refine AW.exit ?_; (iterate 2 refine thenD_exit ?_); refine inBlockD_exit ?_; refine inBlockD_n ?_; refine thenD_n ?_; refine AW.region ?_; refine nz ?_; refine zj ?_; refine zm ?_; refine zd ?_)
      exact ⟨s + 1, by omega, by omega, weak rfl (by (refine ⟨.intE (by first | with_reducible rfl | (first | rfl | (rw [hnx]))), ?_⟩; refine ⟨.intE (by first | with_reducible rfl | (first | rfl | (rw [hnx]))), ?_⟩; refine ⟨.intE (by first | with_reducible rfl | (first | rfl | (rw [hnx]))), ?_⟩; (iterate 5 refine ⟨.eq rfl rfl, ?_⟩); refine ⟨.intE (by first | with_reducible rfl | (first | rfl | (rw [hnx]))), ?_⟩; refine ⟨.intE (by first | with_reducible rfl | (first | rfl | (rw [hnx]))), ?_⟩; (iterate 2 refine ⟨.eq rfl rfl, ?_⟩); refine ⟨.pvE (by first | with_reducible rfl | (first | rfl | (rw [hnx]))), ?_⟩; (iterate 2 refine ⟨.eq rfl rfl, ?_⟩); refine ⟨.intE (by first | with_reducible rfl | (first | rfl | (rw [hnx]))), ?_⟩; (iterate 2 refine ⟨.eq rfl rfl, ?_⟩); refine ⟨.pvE (by first | with_reducible rfl | (first | rfl | (rw [hnx]))), ?_⟩; exact trivial)) (by (refine ⟨.box _ rfl ?_, ?_⟩; refine ⟨.intE (by first | with_reducible rfl | (first | rfl | (rw [hnx]))), ?_⟩; exact trivial; refine ⟨.box _ rfl ?_, ?_⟩; refine ⟨.pvE (by first | with_reducible rfl | (first | rfl | (rw [hnx]))), ?_⟩; refine ⟨.intE (by first | with_reducible rfl | (first | rfl | (rw [hnx]))), ?_⟩; refine ⟨.pvE (by first | with_reducible rfl | (first | rfl | (rw [hnx]))), ?_⟩; refine ⟨.pvE (by first | with_reducible rfl | (first | rfl | (rw [hnx]))), ?_⟩; (iterate 2 refine ⟨.eq rfl rfl, ?_⟩); refine ⟨.pvE (by first | with_reducible rfl | (first | rfl | (rw [hnx]))), ?_⟩; refine ⟨.pvE (by first | with_reducible rfl | (first | rfl | (rw [hnx]))), ?_⟩; exact trivial; refine ⟨.loop rfl, ?_⟩; refine ⟨.box _ rfl ?_, ?_⟩; refine ⟨.pvE (by first | with_reducible rfl | (first | rfl | (rw [hnx]))), ?_⟩; refine ⟨.intE (by first | with_reducible rfl | (first | rfl | (rw [hnx]))), ?_⟩; exact trivial; refine ⟨.box _ rfl ?_, ?_⟩; refine ⟨.pvE (by first | with_reducible rfl | (first | rfl | (rw [hnx]))), ?_⟩; refine ⟨.pvE (by first | with_reducible rfl | (first | rfl | (rw [hnx]))), ?_⟩; (iterate 2 refine ⟨.eq rfl rfl, ?_⟩); exact trivial; refine ⟨.box _ rfl ?_, ?_⟩; refine ⟨.pvE (by first | with_reducible rfl | (first | rfl | (rw [hnx]))), ?_⟩; refine ⟨.intE (by first | with_reducible rfl | (first | rfl | (rw [hnx]))), ?_⟩; exact trivial; refine ⟨.box _ rfl ?_, ?_⟩; refine ⟨.pvE (by first | with_reducible rfl | (first | rfl | (rw [hnx]))), ?_⟩; refine ⟨.pvE (by first | with_reducible rfl | (first | rfl | (rw [hnx]))), ?_⟩; (iterate 2 refine ⟨.eq rfl rfl, ?_⟩); (iterate 2 exact trivial))) rfl⟩
  · obtain rfl : st = s := by omega
    (refine zq ?_; refine zs ?_; refine zd ?_; refine zo ?_; refine zk ?_; refine AW.exit ?_; (iterate 2 refine thenD_exit ?_); refine inBlockD_exit ?_; refine iterEndsN_ready (.inl rfl) rfl ?_; (try refine nz ?_); refine inBlockD_n ?_; refine thenD_n ?_; refine zq ?_; refine zb ?_; refine za ?_; refine zd ?_; refine AW.ret ?_; refine inlEnds_rpv rfl rfl ?_; refine nz ?_; refine za ?_; refine zd ?_; refine AW.ret ?_)
    (apply ends_ret; (exact Res.one (.tmp rfl rfl)); (refine Le.litI ?_; (rfl)))
end Go.Ab
/- Chapter 24: the law of homomorphisms. -/
namespace Go.Ab
open Go Go.Proofs
open Nat (reduceAdd reduceSub)
set_option maxRecDepth 100000
set_option maxHeartbeats 16000000
theorem lf_permS {s : SpecM} {at' : List Int} {m n : Nat} {bs : List BndM} (h : MadeOk s at' m n bs) {p : List Int} (hs : SymP n (srtF at') (fxF s.sorts at') (arF s.fields) bs p) : PermN (varsM 0 m (freeL 0 bs) (vrF s.fields)).length (lf24 s m bs p) := by
  unfold lf24
  rw [hs.perm.len]
  exact lit_perm h.n1 h.bnd hs
def metN (n : Nat) (l : List Int) : List Bool := (List.range n).map fun j : Nat => decide ((j : Int) + 1 ∈ l)
theorem metN_len (n : Nat) (l : List Int) : (metN n l).length = n := by simp [metN]
theorem metN_zero (n : Nat) : metN n [] = List.replicate n false := by
  rw [List.eq_replicate_iff]
  refine ⟨metN_len n [], fun x hx => ?_⟩
  obtain ⟨j, _, rfl⟩ := List.mem_map.1 hx
  simp
theorem metN_set {n : Nat} {l : List Int} {x : Int} (hx : 1 ≤ x ∧ x ≤ (n : Int)) : (metN n l).set (x - 1).toNat true = metN n (l ++ [x]) := by
  refine List.ext_getElem (by simp [metN]) fun j h1 h2 => ?_
  rw [List.getElem_set]
  simp only [metN, List.getElem_map, List.getElem_range, List.mem_append, List.mem_singleton]
  by_cases e : (x - 1).toNat = j
  · rw [if_pos e]
    have : (j : Int) + 1 = x := by omega
    simp [this]
  · rw [if_neg e]
    have : ¬ (j : Int) + 1 = x := by omega
    simp [this]
theorem metN_at {n : Nat} {l : List Int} {x : Int} (hx : 1 ≤ x ∧ x ≤ (n : Int)) (hn : x ∉ l) (h : (x - 1).toNat < (metN n l).length) : (metN n l)[(x - 1).toNat] = false := by
  simp only [metN, List.getElem_map, List.getElem_range]
  rw [decide_eq_false]
  rwa [show (((x - 1).toNat : Nat) : Int) + 1 = x by omega]
theorem setB (l : List Bool) (i : Nat) (b : Bool) : (l.map encB).set i [PV.lit (.bool b)] = (l.set i b).map encB := by
  rw [List.map_set]; rfl
attribute [local irreducible] AW AOps thenD inBlockD AR iterEnds roundEndsN inlEnds noGotoD grpM varsM freeL litV metN compA invA idA
theorem lawHom_fn (s : SpecM) (at' : List Int) (st : Int) (raw : List (List Int)) (P Q : Int) (hraw : ∀ r ∈ raw, ∀ x ∈ r, 0 ≤ x ∧ x ≤ 255) (hP : 0 ≤ P ∧ P ≤ 65535) (hQ : 0 ≤ Q ∧ Q ≤ 65535) :
    Fn Try.prog 6 [caseA s at' st raw P Q] (litB true) := by
  have hm := made24_fn s at' st raw P Q hraw hP hQ
  rcases hm with hm | ⟨n, m, bs, p, q, hM⟩
  · obtain ⟨so, fs, pr, fa⟩ := s
    refine Fn.enter (n := 170) Try.func6 rfl rfl rfl rfl rfl (by decide) fun g hro_ hwt_ => ?_; (try refine nz ?_)
    (refine zq ?_; refine AOps.box rfl rfl rfl rfl ?_; refine nz ?_; refine za ?_; refine zd ?_; refine zq ?_; refine nz ?_; refine zA (head24_fn) ?_; refine za ?_; refine zd ?_; refine zq ?_; refine nz ?_; refine zL ?_; refine nz ?_; refine zA (hm) ?_; refine AOps.move_tup rfl rfl rfl ?_; (iterate 5 refine AOps.extract rfl rfl rfl rfl ?_); (iterate 5 refine za ?_); refine zd ?_; refine zo ?_; refine zq ?_; refine nz ?_; refine zm ?_; refine AOps.not rfl rfl rfl ?_; refine zd ?_; refine AW.cond_lt rfl rfl ?_; refine zq ?_; refine nz ?_; refine zm ?_; refine za ?_; refine zd ?_; refine AW.ret ?_; refine thenD_ret ?_)
    (apply ends_ret; (exact Res.one (.tmp rfl rfl)); (refine Le.litB ?_; (rfl)))
  obtain ⟨rfl, hok, hp, hq, hfew, hm⟩ := hM
  have sp := grp_mem.1 hp
  have sq := grp_mem.1 hq
  have sb := sp.comp hok.n1 hok.bnd sq
  have si : SymP n (srtF at') (fxF s.sorts at') (arF s.fields) bs (idA n) := .id hok.n1 hok.bnd
  have hpl := sp.perm.len
  have hql := sq.perm.len
  have fL1 := literals_fn s at' m bs p (hok.lit sp)
  have fL2 := literals_fn s at' m bs q (hok.lit sq)
  have fL3 := literals_fn s at' m bs (compA p q) (hok.lit sb)
  have fL4 := literals_fn s at' m bs (idA n) (hok.lit si)
  have fI := inputs_fn s at' m bs p (hok.lit sp)
  have fC1 := compose_fn p q (fun x hx => by have := sq.perm.rng x hx; omega) (by have := hok.n5; omega)
  have fV := inverse11_fn p (by rw [hpl]; exact sp.perm) (by have := hok.n5; omega)
  have hcv := comp_inv sp.perm
  have fC2 := compose_fn p (invA p) (fun x hx => by have := sp.perm.inv.rng x hx; omega) (by have := sp.perm.inv.len; have := hok.n5; omega)
  rw [hcv] at fC2
  have p1 := lf_permS hok sp
  have p2 := lf_permS hok sq
  have p3 := lf_permS hok sb
  have p4 := lf_permS hok si
  have hcomp : CompL (lf24 s m bs p) (lf24 s m bs q) (lf24 s m bs (compA p q)) := by
    unfold lf24
    rw [hpl, hql, sb.perm.len]
    exact lit_comp hok.n1 hok.bnd sp sq
  have hid : ∀ (i : Nat) (h : i < (lf24 s m bs (idA n)).length), (lf24 s m bs (idA n))[i] = (i : Int) + 1 := fun i h => by
    have e : lf24 s m bs (idA n) = litV 0 n (arF s.fields) m (vrF s.fields) bs (idA n) := by unfold lf24; rw [si.perm.len]
    have h' : i < (litV 0 n (arF s.fields) m (vrF s.fields) bs (idA n)).length := by rw [← e]; exact h
    have := lit_id (o := 0) (st := m) (vr := vrF s.fields) hok.n1 hok.bnd h'
    simp only [e]
    exact this
  rw [vars_len 1 0] at hfew
  generalize (varsM 0 m (freeL 0 bs) (vrF s.fields)).length = nV at hfew fI p1 p2 p3 p4
  unfold lf24 at p1 p2 p3 p4 hcomp hid
  generalize litV 0 p.length (arF s.fields) m (vrF s.fields) bs p = lp at fL1 p1 hcomp
  generalize litV 0 q.length (arF s.fields) m (vrF s.fields) bs q = lq at fL2 p2 hcomp
  generalize litV 0 (compA p q).length (arF s.fields) m (vrF s.fields) bs (compA p q) = lb at fL3 p3 hcomp
  generalize litV 0 (idA n).length (arF s.fields) m (vrF s.fields) bs (idA n) = li at fL4 p4 hid
  have l1 := p1.len
  have l2 := p2.len
  have l3 := p3.len
  have l4 := p4.len
  clear hp hq sp sq sb si hok hpl hql hcv
  generalize compA p q = pq at fL3 fC1
  generalize invA p = ip at fV fC2
  generalize idA n = pid at fL4 fC2
  obtain ⟨so, fs, pr, fa⟩ := s
  refine Fn.enter (n := 170) Try.func6 rfl rfl rfl rfl rfl (by decide) fun g hro_ hwt_ => ?_; (try refine nz ?_)
  (refine zq ?_; refine AOps.box rfl rfl rfl rfl ?_; refine nz ?_; refine za ?_; refine zd ?_; refine zq ?_; refine nz ?_; refine zA (head24_fn) ?_; refine za ?_; refine zd ?_; refine zq ?_; refine nz ?_; refine zL ?_; refine nz ?_; refine zP (hm) ?_; refine AOps.move_tup rfl rfl rfl ?_; (iterate 5 refine AOps.extract rfl rfl rfl rfl ?_); (iterate 5 refine za ?_); refine zd ?_; refine zo ?_; refine zq ?_; refine nz ?_; refine zm ?_; refine AOps.not rfl rfl rfl ?_; refine zd ?_; refine AW.cond_lf rfl rfl ?_; refine AW.skip ?_; refine thenD_n ?_; refine zq ?_; refine nz ?_; refine AOps.fieldAddrN 54 0 0 rfl rfl rfl rfl ?_; (with_reducible apply AOps.load_bs); (iterate 3 exact rfl); (repeat' first | exact Sub.nil | apply Sub.take | apply Sub.skip); (iterate 3 exact rfl); refine AOps.fieldAddrN 54 1 4 rfl rfl rfl rfl ?_; (with_reducible apply AOps.load_bs); (iterate 3 exact rfl); (repeat' first | exact Sub.nil | apply Sub.take | apply Sub.skip); (iterate 3 exact rfl); (iterate 2 refine zm ?_); refine zP (fL1) ?_; refine za ?_; refine zd ?_; refine zq ?_; refine nz ?_; refine AOps.fieldAddrN 54 0 0 rfl rfl rfl rfl ?_; (with_reducible apply AOps.load_bs); (iterate 3 exact rfl); (repeat' first | exact Sub.nil | apply Sub.take | apply Sub.skip); (iterate 3 exact rfl); refine AOps.fieldAddrN 54 1 4 rfl rfl rfl rfl ?_; (with_reducible apply AOps.load_bs); (iterate 3 exact rfl); (repeat' first | exact Sub.nil | apply Sub.take | apply Sub.skip); (iterate 3 exact rfl); (iterate 2 refine zm ?_); refine zP (fL2) ?_; refine za ?_; refine zd ?_; refine zo ?_; refine AW.regionM [0, 1, 2, 3, 4, 5, 6] [] rfl (by assumption) (by kernel_rfl) (by kernel_rfl) rfl ?_; show AOps .held _ _ _ [_, _, _, _, _, _, _] _ _; refine AOps.fieldAddrN 54 0 0 rfl rfl rfl rfl ?_; (with_reducible apply AOps.load_bs); (iterate 3 exact rfl); (repeat' first | exact Sub.nil | apply Sub.take | apply Sub.skip); (iterate 3 exact rfl); refine AOps.fieldAddrN 54 1 4 rfl rfl rfl rfl ?_; (with_reducible apply AOps.load_bs); (iterate 3 exact rfl); (repeat' first | exact Sub.nil | apply Sub.take | apply Sub.skip); (iterate 3 exact rfl); (iterate 3 refine zm ?_); refine AOps.nil ?_; refine onlyN_n ?_; intro k_ hk_; refine nz ?_; refine AR.step1M (i := 7) rfl (by kernel_rfl) rfl ?_; intro g_ hgro_ hw_; refine zP (fC1) ?_; refine AOps.nil ?_; refine onlyN_n ?_; refine AR.step1M (i := 8) rfl (by kernel_rfl) rfl ?_; intro g_ hgro_ hw_; refine zP (fL3) ?_; refine AOps.nil ?_; refine onlyN_n ?_; refine AR.readsM [9] (by kernel_rfl) (by kernel_rfl) (by kernel_rfl) (by kernel_rfl) ?_; intro g_ hgro_; show AOps .held _ _ _ [_] _ _; refine za ?_; refine AOps.nil ?_; refine onlyN_n ?_; intro k_ hk_; refine nz ?_; refine AR.doneM (by assumption) (by kernel_rfl) ?_; refine thenD_n ?_; refine zo ?_; refine AW.regionM [0, 1, 2, 3, 4, 5, 6] [] rfl (by assumption) (by kernel_rfl) (by kernel_rfl) rfl ?_; show AOps .held _ _ _ [_, _, _, _, _, _, _] _ _; refine AOps.fieldAddrN 54 0 0 rfl rfl rfl rfl ?_; (with_reducible apply AOps.load_bs); (iterate 3 exact rfl); (repeat' first | exact Sub.nil | apply Sub.take | apply Sub.skip); (iterate 3 exact rfl); refine AOps.fieldAddrN 54 1 4 rfl rfl rfl rfl ?_; (with_reducible apply AOps.load_bs); (iterate 3 exact rfl); (repeat' first | exact Sub.nil | apply Sub.take | apply Sub.skip); (iterate 3 exact rfl); (iterate 3 refine zm ?_); refine AOps.nil ?_; refine onlyN_n ?_; intro k_ hk_; refine nz ?_; refine AR.step1M (i := 7) rfl (by kernel_rfl) rfl ?_; intro g_ hgro_ hw_; refine zP (fV) ?_; refine AOps.nil ?_; refine onlyN_n ?_; refine AR.step1M (i := 8) rfl (by kernel_rfl) rfl ?_; intro g_ hgro_ hw_; refine zP (fC2) ?_; refine AOps.nil ?_; refine onlyN_n ?_; refine AR.step1M (i := 9) rfl (by kernel_rfl) rfl ?_; intro g_ hgro_ hw_; refine zP (fL4) ?_; refine AOps.nil ?_; refine onlyN_n ?_; refine AR.readsM [10] (by kernel_rfl) (by kernel_rfl) (by kernel_rfl) (by kernel_rfl) ?_; intro g_ hgro_; show AOps .held _ _ _ [_] _ _; refine za ?_; refine AOps.nil ?_; refine onlyN_n ?_; intro k_ hk_; refine nz ?_; refine AR.doneM (by assumption) (by kernel_rfl) ?_; refine thenD_n ?_; refine zq ?_; refine AOps.fieldAddrN 54 0 0 rfl rfl rfl rfl ?_; (with_reducible apply AOps.load_bs); (iterate 3 exact rfl); (repeat' first | exact Sub.nil | apply Sub.take | apply Sub.skip); (iterate 3 exact rfl); refine AOps.fieldAddrN 54 1 4 rfl rfl rfl rfl ?_; (with_reducible apply AOps.load_bs); (iterate 3 exact rfl); (repeat' first | exact Sub.nil | apply Sub.take | apply Sub.skip); (iterate 3 exact rfl); refine zm ?_; refine zA (fI) ?_; refine za ?_; refine zd ?_; refine zo ?_; refine zq ?_; refine nz ?_; refine zm ?_; refine zn ?_; refine zm ?_; refine AOps.neq rfl rfl rfl rfl rfl ?_; refine zm ?_; refine zy ?_; refine zm ?_; refine zy ?_; refine zn ?_; refine zy ?_; refine zm ?_; refine zy ?_; refine AOps.neq rfl rfl rfl rfl rfl ?_; refine zF ?_; refine zm ?_; refine zy ?_; refine zm ?_; refine zy ?_; refine zn ?_; refine zy ?_; refine zm ?_; refine zy ?_; refine AOps.neq rfl rfl rfl rfl rfl ?_; refine zF ?_; refine zm ?_; refine zy ?_; refine zm ?_; refine zy ?_; refine zn ?_; refine zy ?_; refine zm ?_; refine zy ?_; refine AOps.neq rfl rfl rfl rfl rfl ?_; refine zF ?_; refine zd ?_; refine zk ?_; refine AW.skip ?_; refine thenD_n ?_; refine zq ?_; refine nz ?_; refine zm ?_; refine AOps.makeSlice1 rfl rfl rfl rfl rfl rfl rfl rfl rfl rfl (by omega) ?_; refine nz ?_; refine AOps.assign_own rfl rfl rfl ?_; refine zd ?_; refine zo ?_; refine zq ?_; refine nz ?_; refine za ?_; refine zd ?_; refine AW.block ?_)
  (refine nz ?_; apply AW.loopR [13, 12, 11, 10, 38, 9, 5, 20, 3] [0] (fun k : Nat => ([(15, litI k), (14, .own 1 4 1 ((metN nV (lp.take k)).map encB))] : List (Nat × AV))) (fun k : Nat => ([(1, some .row)] : List (Nat × Option Ob))) (fun k : Nat => k ≤ nV) (fun k : Nat => nV - k) (0); (conv => lhs; simp only [Nf.lpR, Nf.all, Nat.reduceBEq, reduceAdd, reduceSub]); (all_goals skip))
  · exact Nat.zero_le _
  · exact weak rfl (by (refine ⟨.intE (by first | with_reducible rfl | (first | rfl | (rw [List.take_zero, metN_zero, List.map_replicate]; rfl) | (show List.replicate _ _ = List.map encB _; rw [List.take_zero, metN_zero, List.map_replicate, Int.toNat_natCast]; rfl))), ?_⟩; refine ⟨.ownE (by first | with_reducible rfl | (first | rfl | (rw [List.take_zero, metN_zero, List.map_replicate]; rfl) | (show List.replicate _ _ = List.map encB _; rw [List.take_zero, metN_zero, List.map_replicate, Int.toNat_natCast]; rfl))) rfl, ?_⟩; refine ⟨.intE (by first | with_reducible rfl | (first | rfl | (rw [List.take_zero, metN_zero, List.map_replicate]; rfl) | (show List.replicate _ _ = List.map encB _; rw [List.take_zero, metN_zero, List.map_replicate, Int.toNat_natCast]; rfl))), ?_⟩; refine ⟨.pvE (by first | with_reducible rfl | (first | rfl | (rw [List.take_zero, metN_zero, List.map_replicate]; rfl) | (show List.replicate _ _ = List.map encB _; rw [List.take_zero, metN_zero, List.map_replicate, Int.toNat_natCast]; rfl))), ?_⟩; refine ⟨.pvE (by first | with_reducible rfl | (first | rfl | (rw [List.take_zero, metN_zero, List.map_replicate]; rfl) | (show List.replicate _ _ = List.map encB _; rw [List.take_zero, metN_zero, List.map_replicate, Int.toNat_natCast]; rfl))), ?_⟩; refine ⟨.pvE (by first | with_reducible rfl | (first | rfl | (rw [List.take_zero, metN_zero, List.map_replicate]; rfl) | (show List.replicate _ _ = List.map encB _; rw [List.take_zero, metN_zero, List.map_replicate, Int.toNat_natCast]; rfl))), ?_⟩; refine ⟨.eq rfl rfl, ?_⟩; refine ⟨.pvE (by first | with_reducible rfl | (first | rfl | (rw [List.take_zero, metN_zero, List.map_replicate]; rfl) | (show List.replicate _ _ = List.map encB _; rw [List.take_zero, metN_zero, List.map_replicate, Int.toNat_natCast]; rfl))), ?_⟩; refine ⟨.pvE (by first | with_reducible rfl | (first | rfl | (rw [List.take_zero, metN_zero, List.map_replicate]; rfl) | (show List.replicate _ _ = List.map encB _; rw [List.take_zero, metN_zero, List.map_replicate, Int.toNat_natCast]; rfl))), ?_⟩; refine ⟨.eq rfl rfl, ?_⟩; refine ⟨.boolE (by first | with_reducible rfl | (first | rfl | (rw [List.take_zero, metN_zero, List.map_replicate]; rfl) | (show List.replicate _ _ = List.map encB _; rw [List.take_zero, metN_zero, List.map_replicate, Int.toNat_natCast]; rfl))), ?_⟩; exact trivial)) (by (refine ⟨.row rfl, ?_⟩; refine ⟨.box _ rfl ?_, ?_⟩; refine ⟨.pvE (by first | with_reducible rfl | (first | rfl | (rw [List.take_zero, metN_zero, List.map_replicate]; rfl) | (show List.replicate _ _ = List.map encB _; rw [List.take_zero, metN_zero, List.map_replicate, Int.toNat_natCast]; rfl))), ?_⟩; refine ⟨.pvE (by first | with_reducible rfl | (first | rfl | (rw [List.take_zero, metN_zero, List.map_replicate]; rfl) | (show List.replicate _ _ = List.map encB _; rw [List.take_zero, metN_zero, List.map_replicate, Int.toNat_natCast]; rfl))), ?_⟩; (iterate 2 refine ⟨.eq rfl rfl, ?_⟩); refine ⟨.pvE (by first | with_reducible rfl | (first | rfl | (rw [List.take_zero, metN_zero, List.map_replicate]; rfl) | (show List.replicate _ _ = List.map encB _; rw [List.take_zero, metN_zero, List.map_replicate, Int.toNat_natCast]; rfl))), ?_⟩; refine ⟨.intE (by first | with_reducible rfl | (first | rfl | (rw [List.take_zero, metN_zero, List.map_replicate]; rfl) | (show List.replicate _ _ = List.map encB _; rw [List.take_zero, metN_zero, List.map_replicate, Int.toNat_natCast]; rfl))), ?_⟩; refine ⟨.pvE (by first | with_reducible rfl | (first | rfl | (rw [List.take_zero, metN_zero, List.map_replicate]; rfl) | (show List.replicate _ _ = List.map encB _; rw [List.take_zero, metN_zero, List.map_replicate, Int.toNat_natCast]; rfl))), ?_⟩; refine ⟨.intE (by first | with_reducible rfl | (first | rfl | (rw [List.take_zero, metN_zero, List.map_replicate]; rfl) | (show List.replicate _ _ = List.map encB _; rw [List.take_zero, metN_zero, List.map_replicate, Int.toNat_natCast]; rfl))), ?_⟩; refine ⟨.intE (by first | with_reducible rfl | (first | rfl | (rw [List.take_zero, metN_zero, List.map_replicate]; rfl) | (show List.replicate _ _ = List.map encB _; rw [List.take_zero, metN_zero, List.map_replicate, Int.toNat_natCast]; rfl))), ?_⟩; (iterate 2 exact trivial))) rfl
  rintro k hk
  have hml := metN_len nV (lp.take k)
  by_cases hlt : k < nV
  · have k1 : k < lp.length := by omega
    have k2 : k < lq.length := by omega
    have k4 : k < li.length := by omega
    have r1 := p1.rng _ (List.getElem_mem k1)
    have r2 := p2.rng _ (List.getElem_mem k2)
    have e4 := hid k k4
    have hno : lp[k] ∉ lp.take k := fun h => by
      obtain ⟨j, hj, e⟩ := List.mem_take_iff_getElem.1 h
      have := (List.getElem_inj p1.nodup).1 e
      omega
    have hma := metN_at r1 hno (by omega)
    have hms := metN_set (l := lp.take k) r1
    have hts := take_succ_get k1
    (refine zo ?_; refine zq ?_; (iterate 2 refine zm ?_); refine zs ?_; refine zd ?_; refine zc ?_; refine AW.skip ?_; refine thenD_n ?_; refine zo ?_; refine AW.block ?_; refine zo ?_; refine zq ?_; refine nz ?_; (iterate 2 refine zm ?_); (focus ((with_reducible apply AOps.index_map); (iterate 7 exact rfl); rotate_left; omega)); refine zr ?_; refine zs ?_; refine zm ?_; refine zy ?_; refine zm ?_; refine zy ?_; refine zm ?_; refine zy ?_; (focus ((with_reducible apply AOps.index_map); (iterate 7 exact rfl); rotate_left; omega)); refine zy ?_; refine zr ?_; refine zy ?_; refine zm ?_; refine zy ?_; refine AOps.gtr rfl rfl rfl rfl rfl ?_; refine zF ?_; refine zm ?_; refine zy ?_; refine zm ?_; refine zy ?_; refine zm ?_; refine zy ?_; (focus ((with_reducible apply AOps.index_map); (iterate 7 exact rfl); rotate_left; omega)); refine zy ?_; refine zr ?_; refine zy ?_; refine zs ?_; refine zF ?_; refine zm ?_; refine zy ?_; refine zm ?_; refine zy ?_; refine zm ?_; refine zy ?_; (focus ((with_reducible apply AOps.index_map); (iterate 7 exact rfl); rotate_left; omega)); refine zy ?_; refine zr ?_; refine zy ?_; refine zm ?_; refine zy ?_; refine AOps.gtr rfl rfl rfl rfl rfl ?_; refine zF ?_; refine zm ?_; refine zy ?_; refine AOps.move_own rfl rfl rfl ?_; refine zy ?_; refine zm ?_; refine zy ?_; refine zm ?_; refine zy ?_; (focus ((with_reducible apply AOps.index_map); (iterate 7 exact rfl); rotate_left; omega)); refine zy ?_; refine zr ?_; refine zy ?_; refine AOps.sub rfl rfl rfl rfl rfl (by omega) ?_; refine zy ?_; refine AOps.index_own_mapI rfl rfl rfl rfl rfl rfl rfl (by omega) (by omega) ?_; refine zy ?_; (focus ((with_reducible apply AOps.load_o1_mapI); (iterate 4 exact rfl); exact (fun h_ => by cases h_); rotate_left; (first | omega | exact Nat.zero_lt_one | exact (by simp)))); refine zF ?_; refine zm ?_; refine AOps.guard_lt rfl rfl rfl rfl rfl (by assumption) rfl ?_; refine zm ?_; refine AOps.guard_lt rfl rfl rfl rfl rfl (by assumption) rfl ?_; refine zm ?_; refine AOps.guard_lt rfl rfl rfl rfl rfl (by assumption) rfl ?_; (focus ((with_reducible apply AOps.index_map); (iterate 7 exact rfl); rotate_left; omega)); refine AOps.guard_lt rfl rfl rfl rfl rfl (by assumption) rfl ?_; refine zr ?_; refine AOps.guard_lt rfl rfl rfl rfl rfl (by assumption) rfl ?_; refine zm ?_; refine AOps.guard_lt rfl rfl rfl rfl rfl (by assumption) rfl ?_; refine zj ?_; refine AOps.guard_lt rfl rfl rfl rfl rfl (by assumption) rfl ?_; refine AOps.neq rfl rfl rfl rfl rfl ?_; refine AOps.pickBf rfl rfl (by assumption) rfl rfl rfl rfl ?_; refine zd ?_; refine zk ?_; refine AW.skip ?_; refine thenD_n ?_; refine AW.region ?_; refine nz ?_; refine AOps.move_own rfl rfl rfl ?_; (iterate 2 refine zm ?_); (focus ((with_reducible apply AOps.index_map); (iterate 7 exact rfl); rotate_left; omega)); refine zr ?_; refine AOps.sub rfl rfl rfl rfl rfl (by omega) ?_; refine AOps.index_own_mapI rfl rfl rfl rfl rfl rfl rfl (by omega) (by omega) ?_; refine AOps.store_o1 rfl rfl rfl rfl rfl rfl rfl rfl ?_; refine AOps.nil ?_; refine inBlockD_n ?_; refine thenD_n ?_; refine AW.region ?_; refine nz ?_; refine zm ?_; refine zj ?_; refine za ?_; refine zd ?_)
    exact ⟨k + 1, by omega, by omega, weak rfl (by (refine ⟨.intE (by first | with_reducible rfl | (first | rfl | (rw [setB, hms, hts]))), ?_⟩; refine ⟨.ownE (by first | with_reducible rfl | (first | rfl | (rw [setB, hms, hts]))) rfl, ?_⟩; refine ⟨.intE (by first | with_reducible rfl | (first | rfl | (rw [setB, hms, hts]))), ?_⟩; refine ⟨.pvE (by first | with_reducible rfl | (first | rfl | (rw [setB, hms, hts]))), ?_⟩; refine ⟨.pvE (by first | with_reducible rfl | (first | rfl | (rw [setB, hms, hts]))), ?_⟩; refine ⟨.pvE (by first | with_reducible rfl | (first | rfl | (rw [setB, hms, hts]))), ?_⟩; refine ⟨.eq rfl rfl, ?_⟩; refine ⟨.pvE (by first | with_reducible rfl | (first | rfl | (rw [setB, hms, hts]))), ?_⟩; refine ⟨.pvE (by first | with_reducible rfl | (first | rfl | (rw [setB, hms, hts]))), ?_⟩; refine ⟨.eq rfl rfl, ?_⟩; refine ⟨.boolE (by first | with_reducible rfl | (first | rfl | (rw [setB, hms, hts]))), ?_⟩; exact trivial)) (by (refine ⟨.row rfl, ?_⟩; refine ⟨.box _ rfl ?_, ?_⟩; refine ⟨.pvE (by first | with_reducible rfl | (first | rfl | (rw [setB, hms, hts]))), ?_⟩; refine ⟨.pvE (by first | with_reducible rfl | (first | rfl | (rw [setB, hms, hts]))), ?_⟩; (iterate 2 refine ⟨.eq rfl rfl, ?_⟩); refine ⟨.pvE (by first | with_reducible rfl | (first | rfl | (rw [setB, hms, hts]))), ?_⟩; refine ⟨.intE (by first | with_reducible rfl | (first | rfl | (rw [setB, hms, hts]))), ?_⟩; refine ⟨.pvE (by first | with_reducible rfl | (first | rfl | (rw [setB, hms, hts]))), ?_⟩; refine ⟨.intE (by first | with_reducible rfl | (first | rfl | (rw [setB, hms, hts]))), ?_⟩; refine ⟨.intE (by first | with_reducible rfl | (first | rfl | (rw [setB, hms, hts]))), ?_⟩; (iterate 2 exact trivial))) rfl⟩
  · (refine zo ?_; refine zq ?_; (iterate 2 refine zm ?_); refine zs ?_; refine zd ?_; refine zk ?_; refine AW.exit ?_; (iterate 2 refine thenD_exit ?_); refine inBlockD_exit ?_; refine thenD_n ?_; refine zo ?_; refine zq ?_; refine nz ?_; refine za ?_; refine zd ?_; refine AW.block ?_)
    (refine nz ?_; apply AW.loopR [13, 11, 10, 9, 3] [] (fun k : Nat => ([(16, litI k)] : List (Nat × AV))) (fun k : Nat => ([] : List (Nat × Option Ob))) (fun k : Nat => k ≤ nV) (fun k : Nat => nV - k) (0); (conv => lhs; simp only [Nf.lpR, Nf.all, Nat.reduceBEq, reduceAdd, reduceSub]); (all_goals skip))
    · exact Nat.zero_le _
    · exact weak rfl (by (refine ⟨.eq rfl rfl, ?_⟩; (iterate 5 refine ⟨.eq rfl rfl, ?_⟩); exact trivial)) (by (exact trivial)) rfl
    rintro k hk
    by_cases hlt : k < nV
    · have k2 : k < lq.length := by omega
      have k3 : k < lb.length := by omega
      have r2 := p2.rng _ (List.getElem_mem k2)
      obtain ⟨h1, h2⟩ := hcomp.2 k k2 k3
      (refine zo ?_; refine zq ?_; (iterate 2 refine zm ?_); refine zs ?_; refine zd ?_; refine zc ?_; refine AW.skip ?_; refine thenD_n ?_; refine zo ?_; refine AW.block ?_; refine zo ?_; (with_reducible apply AW.regionQ); exact rfl; exact rfl; kernel_rfl; (with_reducible assumption); (iterate 2 refine zm ?_); (focus ((with_reducible apply AOps.index_map); (iterate 7 exact rfl); rotate_left; omega)); refine zr ?_; (iterate 3 refine zm ?_); (focus ((with_reducible apply AOps.index_map); (iterate 7 exact rfl); rotate_left; omega)); refine zr ?_; refine AOps.sub rfl rfl rfl rfl rfl (by omega) ?_; (focus ((with_reducible apply AOps.index_mapI); (iterate 7 exact rfl); omega; rotate_left; (first | omega | exact Nat.zero_lt_one | exact (by simp)))); refine zr ?_; refine AOps.neq rfl rfl rfl rfl rfl ?_; refine zd ?_; refine zk ?_; refine AW.skip ?_; refine inBlockD_n ?_; refine thenD_n ?_; refine AW.region ?_; refine nz ?_; refine zm ?_; refine zj ?_; refine za ?_; refine zd ?_)
      exact ⟨k + 1, by omega, by omega, weak rfl (by (refine ⟨.eq rfl rfl, ?_⟩; (iterate 5 refine ⟨.eq rfl rfl, ?_⟩); exact trivial)) (by (exact trivial)) rfl⟩
    · (refine zo ?_; refine zq ?_; (iterate 2 refine zm ?_); refine zs ?_; refine zd ?_; refine zk ?_; refine AW.exit ?_; (iterate 2 refine thenD_exit ?_); refine inBlockD_exit ?_; refine thenD_n ?_; refine zq ?_; refine nz ?_; refine zm ?_; refine za ?_; refine zd ?_; refine AW.ret ?_)
      (apply ends_ret; (exact Res.one (.tmp rfl rfl)); (refine Le.litB ?_; (rfl)))
end Go.Ab
namespace Go.Proofs.Ytcklfjkaadfjjaa.Law4
open Go Go.Ab Go.ChangeShapes Go.WideShapes Go.ChangeAt Go.RowKit
set_option linter.unusedVariables false
theorem own : ownKnob Try.prog.godebug = none := by kernel_rfl
theorem laidOut : laidOutB Try.prog = true := by kernel_rfl
theorem rdInts : Rd Try.prog 26 (fun l : List Int => [ints l]) (fun _ => True) :=
  Rd.map (Rd.slice (e := 3) (k := 1) (by' := 8) Try.underlying26 (by kernel_rfl) (by decide) (by kernel_rfl) (by decide) (fun _ => rfl) (Rd.int Try.underlying3)) id (fun _ => rfl) (fun _ _ => trivial)
theorem rdSort : Rd Try.prog 69 encSo (fun _ => True) :=
  Rd.map (Rd.struct (n := 2) Try.underlying69 (by kernel_rfl) (RdF.cons (k := 1) (n := 1) rfl (by kernel_rfl) (Rd.string Try.underlying9) (RdF.cons (k := 1) (n := 0) rfl (by kernel_rfl) (Rd.bool Try.underlying4) RdF.nil))) (fun p => ((p.1, p.2.1) : SortM)) (fun p => rfl) (fun _ _ => trivial)
theorem rdField : Rd Try.prog 71 encF (fun _ => True) :=
  Rd.map (Rd.struct (n := 3) Try.underlying71 (by kernel_rfl) (RdF.cons (k := 1) (n := 2) rfl (by kernel_rfl) (Rd.string Try.underlying9) (RdF.cons (k := 1) (n := 1) rfl (by kernel_rfl) rdInts (RdF.cons (k := 1) (n := 0) rfl (by kernel_rfl) (Rd.bool Try.underlying4) RdF.nil)))) (fun p => (⟨p.1, p.2.1, p.2.2.1⟩ : FieldM)) (fun p => rfl) (fun _ _ => trivial)
def encS (s : SpecM) : List PV := [.slice 2 (s.sorts.map encSo), .slice 3 (s.fields.map encF), .lit (.slice s.preds.a s.preds.l s.preds.c), .lit (.slice s.facts.a s.facts.l s.facts.c)]
theorem rdSpec : Rd Try.prog 47 encS (fun _ => True) :=
  Rd.map (Rd.struct (n := 4) Try.underlying47 (by kernel_rfl) (RdF.cons (k := 1) (n := 3) rfl (by kernel_rfl) (Rd.slice (e := 69) (k := 2) (by' := 24) Try.underlying42 (by kernel_rfl) (by decide) (by kernel_rfl) (by decide) (fun _ => rfl) rdSort) (RdF.cons (k := 1) (n := 2) rfl (by kernel_rfl) (Rd.slice (e := 71) (k := 3) (by' := 48) Try.underlying43 (by kernel_rfl) (by decide) (by kernel_rfl) (by decide) (fun _ => rfl) rdField) (RdF.cons (k := 1) (n := 1) rfl (by kernel_rfl) (Rd.raw Try.underlying44) (RdF.cons (k := 1) (n := 0) rfl (by kernel_rfl) (Rd.raw Try.underlying45) RdF.nil)))))
    (fun p => (⟨p.1, p.2.1, ⟨p.2.2.1.1, p.2.2.1.2.1, p.2.2.1.2.2⟩, ⟨p.2.2.2.1.1, p.2.2.2.1.2.1, p.2.2.2.1.2.2⟩⟩ : SpecM)) (fun p => rfl) (fun _ _ => trivial)
theorem rdScope : Rd Try.prog 49 (fun p : List Int × Int => [ints p.1, .lit (.int .i64 p.2)]) (fun _ => True) :=
  Rd.map (Rd.struct (n := 2) Try.underlying49 (by kernel_rfl) (RdF.cons (k := 1) (n := 1) rfl (by kernel_rfl) rdInts (RdF.cons (k := 1) (n := 0) rfl (by kernel_rfl) (Rd.int Try.underlying3) RdF.nil))) (fun p => (p.1, p.2.1)) (fun p => rfl) (fun _ _ => trivial)
theorem wfR_u8 {n : Int} (h : (Lit.int .u8 n).wf = true) : 0 ≤ n ∧ n ≤ 255 := by
  have e1 : IntKind.u8.min = 0 := rfl
  have e2 : IntKind.u8.max = 255 := rfl
  simp [Lit.wf, e1, e2] at h
  omega
theorem wfR_u16 {n : Int} (h : (Lit.int .u16 n).wf = true) : 0 ≤ n ∧ n ≤ 65535 := by
  have e1 : IntKind.u16.min = 0 := rfl
  have e2 : IntKind.u16.max = 65535 := rfl
  simp [Lit.wf, e1, e2] at h
  omega
theorem rdU8s : Rd Try.prog 22 (fun l : List Int => encUs l) (fun l => ∀ x ∈ l, 0 ≤ x ∧ x ≤ 255) :=
  Rd.map (Rd.slice (e := 5) (k := 1) (by' := 1) Try.underlying22 (by kernel_rfl) (by decide) (by kernel_rfl) (by decide) (fun _ => rfl) (Rd.int Try.underlying5)) id (fun _ => rfl) (fun _ h x hx => wfR_u8 (h.2 x hx))
theorem rdRaws : Rd Try.prog 51 (fun l : List (List Int) => [raws l]) (fun l => ∀ r ∈ l, ∀ x ∈ r, 0 ≤ x ∧ x ≤ 255) :=
  Rd.map (Rd.slice (e := 22) (k := 1) (by' := 24) Try.underlying51 (by kernel_rfl) (by decide) (by kernel_rfl) (by decide) (fun _ => rfl) rdU8s) id (fun _ => rfl) (fun _ h => h.2)
def encCase (p : SpecM × (List Int × Int) × List (List Int) × Int × Int) : List PV := [.slice 2 (p.1.sorts.map encSo), .slice 3 (p.1.fields.map encF), .lit (.slice p.1.preds.a p.1.preds.l p.1.preds.c), .lit (.slice p.1.facts.a p.1.facts.l p.1.facts.c), ints p.2.1.1, .lit (.int .i64 p.2.1.2), raws p.2.2.1, .lit (.int .u16 p.2.2.2.1), .lit (.int .u16 p.2.2.2.2)]
theorem rdCase : Rd Try.prog 54 encCase (fun p => (∀ r ∈ p.2.2.1, ∀ x ∈ r, 0 ≤ x ∧ x ≤ 255) ∧ (0 ≤ p.2.2.2.1 ∧ p.2.2.2.1 ≤ 65535) ∧ (0 ≤ p.2.2.2.2 ∧ p.2.2.2.2 ≤ 65535)) :=
  Rd.map (Rd.struct (n := 9) Try.underlying54 (by kernel_rfl) (RdF.cons (k := 4) (n := 5) rfl (by kernel_rfl) rdSpec (RdF.cons (k := 2) (n := 3) rfl (by kernel_rfl) rdScope (RdF.cons (k := 1) (n := 2) rfl (by kernel_rfl) rdRaws (RdF.cons (k := 1) (n := 1) rfl (by kernel_rfl) (Rd.int Try.underlying52) (RdF.cons (k := 1) (n := 0) rfl (by kernel_rfl) (Rd.int Try.underlying52) RdF.nil))))))
    (fun p => (p.1, p.2.1, p.2.2.1, p.2.2.2.1, p.2.2.2.2.1)) (fun p => rfl) (fun _ h => ⟨h.2.2.1, wfR_u16 h.2.2.2.1, wfR_u16 h.2.2.2.2.1⟩)
theorem ra_true {N : Nat → Prop} {w : World} {v : Value} (h : RA (pcx N) w v (litB true)) : v = .bool true := by
  cases h with
  | pv h => cases h; rfl
set_option maxRecDepth 100000 in
theorem lifted (os : Os) (started : os.Started) (H : Type) (enc : TypeId × Value → H) :
    ReturnsInHanded {} Try.checked os 6 .any (Rows.symbreakHomomorphismSpec.pre6 enc Try.prog Try.f6 Rows.symbreakHomomorphismRow.domain false) (Rows.symbreakHomomorphismSpec.post enc Try.prog Try.f6 false true false false) := by
  refine returnsInHanded_of_change_sized (C := Try.checked) own started (by kernel_rfl) Try.func6
    (ChangeSpec.witness6 (enc := enc) (C := Try.checked) false ⟨#[], #[.agg #[.slice none 0 0, .slice none 0 0, .slice none 0 0, .slice none 0 0, .slice none 0 0, .int .i64 0, .slice none 0 0, .int .u16 0, .int .u16 0]], []⟩ 8 (by kernel_rfl) (by kernel_rfl) (by kernel_rfl) (by kernel_rfl)) ?_
  intro W base args ds gs before hval0 hW hcnd hsz _
  have hval : ∀ (j : Nat) t v, Try.f6.params[j]? = some t → args[j]? = some v → Value.okWide Try.prog W .any base t v := hval0
  have hW' := hW
  obtain ⟨p, q, hA0, hV, rfl, hfz, hnd⟩ := hW
  have hA : DataW.TrodAll enc Try.prog W 0 (fun _ => true) true Try.f6.params.toList args.toList ds p := hA0
  rw [Try.params6] at hA hval
  obtain ⟨v0, vs0, d0, ds0, p0, q0, hargs, rfl, rfl, h0, r0⟩ := trodAll_cons hA
  obtain ⟨rfl, rfl, rfl⟩ := trodAll_nil r0
  obtain rfl : args = #[v0] := by cases args; simp_all
  obtain ⟨rfl, rfl⟩ := trodVars_none hV
  have wt : ∀ (j : Nat) (t : TypeId) (d : DataW H), [54][j]? = some t → [d0][j]? = some d → ∀ n ∈ d.weights Try.prog t, n ≤ reachBytes := by
    intro j t d ht hd
    have hj : j < 1 := (List.getElem?_eq_some_iff.1 ht).1
    refine arg_weights hsz (j := j) ?_ ?_
    · rw [List.getElem?_append_left (by rw [Try.params6]; exact hj), Try.params6]; exact ht
    · rw [List.getElem?_append_left (by simpa using hj)]; exact hd
  obtain ⟨cs0, rfl⟩ := Ab.okWide_struct Try.underlying54 (hval 0 54 v0 rfl rfl)
  obtain ⟨⟨x0, ⟨y0, z0⟩, r0, c0, d0q⟩, s0, o0⟩ := arg_agg rdCase h0 (wt 0 54 d0 rfl rfl) rfl
  have lt0 : ∀ x ∈ p0, x.block < W.heap.size := by obtain ⟨m, hm⟩ := h0; exact DataW.trod_lt m _ _ _ hm
  clear hA0 hval0
  refine ((lawHom_fn x0 y0 z0 r0 c0 d0q o0.1 o0.2.1 o0.2.2).calls (fun _ => True) W _ (fun _ _ => trivial) rfl ?_).mono fun e W' ⟨v, he, hv, bel⟩ => ?_
  · intro j v av hj hav
    match j, hj, hav with
    | 0, hj, hav => cases hj; cases hav; exact s0
    | j + 1, hj, hav => simp at hav
  · obtain rfl := ra_true hv
    subst he
    exact ⟨_, rfl, _, _, _, [], _, [], hW', trodAll_mk1 (shut_bool Try.underlying4 _), (trodAll_cons_mk (Below.trod laidOut (by kernel_rfl) (of_decide_eq_true (by kernel_rfl)) h0 bel lt0) trodAll_mk0), rfl, bel.frame _, fun h => by cases h⟩
theorem over : Rows.symbreakHomomorphismRow.holds Try.pinned (OpenSpec.ofChange Rows.symbreakHomomorphismSpec) :=
  OpenClaim.holds_of_wide 6 Try.f6 rfl rfl rfl rfl rfl rfl rfl ⟨rfl, rfl, rfl, rfl, rfl⟩ rfl rfl rfl rfl rfl (by kernel_rfl) Try.func6 (by kernel_rfl)
    (of_decide_eq_true (by kernel_rfl)) (by unfold Func.isWrapper; first | (rw [if_pos (by decide +kernel)]; kernel_rfl) | (rw [if_neg (by decide +kernel)]; exact ⟨rfl, rfl⟩))
    (fun os started H enc _ => lifted os started H enc)
theorem proved : Rows.SymbreakHomomorphismSaid := over
#print axioms proved
end Go.Proofs.Ytcklfjkaadfjjaa.Law4
