/- Among the images of an assignment under all symmetries there is exactly one leader, and no image is less than it (at most 24 symmetries). No conditions. -/
import Derived.Test.YtcklfjkaadfjjaaAoK17
import Derived.Test.YtcklfjkaadfjjaaAbL3
import Derived.Test.YtcklfjkaadfjjaaAoD6
import Derived.Test.YtcklfjkaadfjjaaAbL2
import Derived.Test.YtcklfjkaadfjjaaRows
import Derived.WalkKit
import Derived.ProofKit
import Derived.OpenShut
import Derived.ChangeOld
import Derived.Below
set_option linter.unusedSimpArgs false
set_option linter.unusedVariables false
namespace Go.Ab
open Go Go.Proofs
open Nat (reduceAdd reduceSub)
set_option maxRecDepth 20000
set_option maxHeartbeats 4000000
structure MadeOk (s : SpecM) (at' : List Int) (st n : Nat) (bs : List BndM) : Prop where
  fit : Fit s at'
  ns : (n : Int) = at'.sum
  n1 : 1 ≤ n
  n5 : n ≤ 5
  stb : 1 ≤ st ∧ st ≤ 4
  good : Good at' s.fields bs
  a4 : at'.length ≤ 4
  a5 : ∀ x ∈ at', x ≤ 5
theorem MadeOk.len {s : SpecM} {at' : List Int} {st n : Nat} {bs : List BndM} (h : MadeOk s at' st n bs) : bs.length = s.fields.length := h.good.len
theorem arF_at {fs : List FieldM} {i : Nat} (h : i < fs.length) : arF fs (i : Int) = fs[i].sorts.length := by
  unfold arF
  rw [show ((i : Int)).toNat = i by omega, getD_of h]
theorem MadeOk.full {s : SpecM} {at' : List Int} {st n : Nat} {bs : List BndM} (h : MadeOk s at' st n bs) {i : Nat} (hi : i < s.fields.length) : (1 ≤ s.fields[i].sorts.length ∧ s.fields[i].sorts.length ≤ 3) ∧ ∀ t ∈ (fullR at' s.fields[i].sorts).2, 0 ≤ t ∧ t < ((n ^ s.fields[i].sorts.length : Nat) : Int) := by
  have hf := relOk_iff.1 (full_ok (h.fit.cols _ (List.getElem_mem hi)) h.fit.sm h.fit.top)
  obtain ⟨⟨h1, h2, h3, h4⟩, h5, h6⟩ := hf
  have e : (fullR at' s.fields[i].sorts).1 = (s.fields[i].sorts.length : Int) := rfl
  rw [e] at h3 h4
  refine ⟨by omega, fun t ht => ?_⟩
  have := h6 t ht
  rw [e, ← h.ns, Int.toNat_natCast, ← Int.natCast_pow] at this
  exact this
theorem MadeOk.bnd {s : SpecM} {at' : List Int} {st n : Nat} {bs : List BndM} (h : MadeOk s at' st n bs) : BndOk n (arF s.fields) bs := by
  have key : ∀ (i : Nat) (hi : i < bs.length), RanksOk n (arF s.fields (i : Int)) bs[i].1.2 ∧ RanksOk n (arF s.fields (i : Int)) bs[i].2.2 := fun i hi => by
    have hi' : i < s.fields.length := by rw [← h.len]; exact hi
    obtain ⟨hr, _, hs⟩ := h.good.get i hi'
    have hf := (h.full hi').2
    rw [arF_at hi']
    exact ⟨⟨hr.low, fun t ht => hf t (hs t (hr.sub t ht))⟩, ⟨hr.high, fun t ht => hf t (hs t ht)⟩⟩
  exact ⟨fun i hi => (key i hi).1, fun i hi => (key i hi).2⟩
theorem pow_small {n a : Nat} (h1 : n ≤ 5) (h2 : a ≤ 3) : n ^ a ≤ 125 := by
  have h3 : n ^ a ≤ 5 ^ a := Nat.pow_le_pow_left h1 a
  have h4 : 5 ^ a ≤ 5 ^ 3 := Nat.pow_le_pow_right (by omega) h2
  omega
theorem MadeOk.rk {s : SpecM} {at' : List Int} {st n : Nat} {bs : List BndM} (h : MadeOk s at' st n bs) {i : Nat} (hi : i < bs.length) : (∀ t ∈ bs[i].1.2, 0 ≤ t ∧ t ≤ 125) ∧ ∀ t ∈ bs[i].2.2, 0 ≤ t ∧ t ≤ 125 := by
  have hb := h.bnd
  have hi' : i < s.fields.length := by rw [← h.len]; exact hi
  have hp := pow_small h.n5 (h.full hi').1.2
  have h1 := (hb.low i hi).rng
  have h2 := (hb.high i hi).rng
  rw [arF_at hi'] at h1 h2
  exact ⟨fun t ht => by have := h1 t ht; omega, fun t ht => by have := h2 t ht; omega⟩
theorem MadeOk.lit {s : SpecM} {at' : List Int} {st n : Nat} {bs : List BndM} (h : MadeOk s at' st n bs) {p : List Int} (hp : SymP n (srtF at') (fxF s.sorts at') (arF s.fields) bs p) : LitOk s st bs p := by
  have hln := hp.perm.len
  have hl := good_lens h.fit h.good
  have h1 := h.n1
  have h5 := h.n5
  refine ⟨h.stb, ⟨h.len, by omega⟩, fun x hx => ?_, fun x hx => ?_, fun t ht => ?_, fun f hf => ?_, by omega, ⟨srtF at', by rw [hln]; exact hp.perm⟩, ?_⟩
  · have := hl.2 x hx
    exact ⟨by omega, by omega, this.2.2⟩
  · obtain ⟨i, hi, rfl⟩ := List.getElem_of_mem hx
    exact (h.bnd.high i hi).inc
  · obtain ⟨k, hk, e, hm⟩ := freeL_mem (bs := bs) (i := 0) (p := t) ht
    have := (h.rk hk).2 t.2 (mem_diff.1 hm).1
    omega
  · obtain ⟨i, hi, rfl⟩ := List.getElem_of_mem hf
    exact (h.full hi).1
  · rw [hln]
    exact act_mem hp.perm h.n1 h.bnd hp.keep
def symX (n : Nat) (ar : Int → Nat) (p : List Int) (bs : List BndM) (i : Nat) : Bool := keepL n p (ar (i : Int)) (bs.getD i ((0, []), (0, []))).1.2 && keepL n p (ar (i : Int)) (bs.getD i ((0, []), (0, []))).2.2
def symB (n : Nat) (ar : Int → Nat) (p : List Int) (bs : List BndM) : Bool := (List.range bs.length).all (symX n ar p bs)
theorem sym_iff {n : Nat} {ar : Int → Nat} {p : List Int} {bs : List BndM} : symB n ar p bs = true ↔ keepB n ar p bs := by
  unfold symB keepB
  rw [List.all_eq_true]
  constructor
  · intro h i hi
    have := h i (List.mem_range.2 hi)
    unfold symX at this
    rw [getD_of hi, Bool.and_eq_true] at this
    exact this
  · intro h i hi
    have hi := List.mem_range.1 hi
    unfold symX
    rw [getD_of hi, Bool.and_eq_true]
    exact h i hi
def grpM (s : SpecM) (at' : List Int) (n : Nat) (bs : List BndM) : List (List Int) := (allM n (srtF at') n).filter fun p => fixB s.sorts at' p && symB n (arF s.fields) p bs
theorem grp_mem {s : SpecM} {at' : List Int} {n : Nat} {bs : List BndM} {p : List Int} : p ∈ grpM s at' n bs ↔ SymP n (srtF at') (fxF s.sorts at') (arF s.fields) bs p := by
  unfold grpM
  rw [List.mem_filter, all_perm, Bool.and_eq_true, sym_iff]
  constructor
  · rintro ⟨h1, h2, h3⟩
    refine ⟨h1, fun x hx hf => ?_, h3⟩
    unfold fixB at h2
    rw [List.all_eq_true] at h2
    have := h2 x (List.mem_range.2 (by rw [h1.len]; exact hx))
    unfold fixX at this
    rw [hf] at this
    simpa using this
  · rintro ⟨h1, h2, h3⟩
    refine ⟨h1, ?_, h3⟩
    unfold fixB
    rw [List.all_eq_true]
    intro x hx
    have hx := List.mem_range.1 hx
    rw [h1.len] at hx
    unfold fixX
    cases hf : fxF s.sorts at' (x : Int) with
    | true => have := h2 x hx hf; simpa using this
    | false => rfl
theorem eq_keep (x : RelM) (c : List Int) : decide (x = (x.1, c)) = decide (c = x.2) := by
  obtain ⟨a, b⟩ := x
  rw [decide_eq_decide]
  constructor
  · intro h; exact ((Prod.mk.injEq _ _ _ _).mp h).2.symm
  · rintro rfl; rfl
attribute [local irreducible] AW AOps thenD inBlockD AR iterEnds roundEndsN inlEnds noGotoD imgR canon keepL symX fixB allM
theorem symmetric_fn (s : SpecM) (at' : List Int) (st n : Nat) (bs : List BndM) (p : List Int) (h : MadeOk s at' st n bs) (hp : PermA n (srtF at') p) : Fn Try.prog 62 [scp at' (st : Int), .pv (bnds bs), .pv (ints p)] (litB (symB n (arF s.fields) p bs)) := by
  have hpl := hp.len
  have hnn := h.ns
  have h1 := h.n1
  have h5 := h.n5
  have hlen := h.len
  have hls := good_lens h.fit h.good
  have hv := valid11_fn at' (st : Int) p h.fit.sm h.a4 h.a5 h.fit.top (by rw [hpl]; exact hp) (by rw [hpl]; exact h.ns)
  have hsb : symB n (arF s.fields) p bs = (List.range bs.length).all (symX n (arF s.fields) p bs) := rfl
  rw [hsb]
  refine Fn.enter (n := 50) Try.func62 rfl rfl rfl rfl rfl (by decide) fun g hro_ hwt_ => ?_; (try refine nz ?_)
  (refine zq ?_; refine AOps.box rfl rfl rfl rfl ?_; refine nz ?_; refine za ?_; refine zd ?_; refine zo ?_; refine zq ?_; refine nz ?_; refine zL ?_; refine nz ?_; refine zm ?_; refine zA (hv) ?_; refine AOps.not rfl rfl rfl ?_; refine zd ?_; refine AW.cond_lf rfl rfl ?_; refine AW.skip ?_; refine thenD_n ?_; refine zo ?_; refine zq ?_; refine nz ?_; refine za ?_; refine zd ?_; refine AW.block ?_)
  (refine nz ?_; apply AW.loopR [3, 1, 2] [0] (fun k : Nat => ([(7, litI k)] : List (Nat × AV))) (fun k : Nat => ([] : List (Nat × Option Ob))) (fun k : Nat => k ≤ bs.length ∧ (List.range k).all (symX n (arF s.fields) p bs) = true) (fun k : Nat => bs.length - k) (0); (conv => lhs; simp only [Nf.lpR, Nf.all, Nat.reduceBEq, reduceAdd, reduceSub]); (all_goals skip))
  · exact ⟨Nat.zero_le _, rfl⟩
  · exact weak rfl (by (refine ⟨.eq rfl rfl, ?_⟩; (iterate 3 refine ⟨.eq rfl rfl, ?_⟩); exact trivial)) (by (refine ⟨.box _ rfl ?_, ?_⟩; (iterate 2 refine ⟨.eq rfl rfl, ?_⟩); (iterate 2 exact trivial))) rfl
  rintro k ⟨hk, hno⟩
  by_cases hlt : k < bs.length
  · have hlt' : k < s.fields.length := by omega
    have hra := rangeAll (symX n (arF s.fields) p bs) k
    have hrn := rangeNot (f := symX n (arF s.fields) p bs) hlt
    rw [hno, Bool.true_and] at hra
    have hfx : symX n (arF s.fields) p bs k = (keepL n p (arF s.fields (k : Int)) (bs.getD k ((0, []), (0, []))).1.2 && keepL n p (arF s.fields (k : Int)) (bs.getD k ((0, []), (0, []))).2.2) := by unfold symX; rfl
    rw [getD_of hlt, arF_at hlt'] at hfx
    obtain ⟨g1, g2, _⟩ := h.good.get k hlt'
    have g3 := g1.ar
    have hfu := (h.full hlt').1
    obtain ⟨t1, t2⟩ := h.rk hlt
    have hl2 := hls.2 _ (List.getElem_mem hlt)
    have r1 := rel11_fn at' (st : Int) p s.fields[k].sorts.length bs[k].1.2 (by rw [hpl]; exact hp) (by omega) (by omega) hfu.2 (fun t ht => by have := t1 t ht; omega) (by omega)
    have r2 := rel11_fn at' (st : Int) p s.fields[k].sorts.length bs[k].2.2 (by rw [hpl]; exact hp) (by omega) (by omega) hfu.2 (fun t ht => by have := t2 t ht; omega) (by omega)
    rw [← g2] at r1
    rw [← g2, ← g3] at r2
    rw [hpl] at r1 r2
    have q1 := rEqual_fn bs[k].1 (bs[k].1.1, canon (bs[k].1.2.map (imgR n p s.fields[k].sorts.length)))
    have q2 := rEqual_fn bs[k].2 (bs[k].2.1, canon (bs[k].2.2.map (imgR n p s.fields[k].sorts.length)))
    rw [eq_keep] at q1 q2
    have k1 : keepL n p s.fields[k].sorts.length bs[k].1.2 = decide (canon (bs[k].1.2.map (imgR n p s.fields[k].sorts.length)) = bs[k].1.2) := by unfold keepL; rfl
    have k2 : keepL n p s.fields[k].sorts.length bs[k].2.2 = decide (canon (bs[k].2.2.map (imgR n p s.fields[k].sorts.length)) = bs[k].2.2) := by unfold keepL; rfl
    rw [← k1] at q1
    rw [← k2] at q2
    generalize canon (bs[k].1.2.map _) = c1 at r1 q1
    generalize canon (bs[k].2.2.map _) = c2 at r2 q2
    cases e1 : keepL n p s.fields[k].sorts.length bs[k].1.2 with
    | true =>
      cases e2 : keepL n p s.fields[k].sorts.length bs[k].2.2 with
      | true =>
        rw [e1, e2] at hfx
        rw [e1] at q1
        rw [e2] at q2
        rw [hfx] at hra
        (refine zo ?_; refine zq ?_; (iterate 2 refine zm ?_); refine zn ?_; refine zs ?_; refine zd ?_; refine zc ?_; refine AW.skip ?_; refine thenD_n ?_; refine zo ?_; refine AW.block ?_; refine zo ?_; refine AW.regionM [0, 1, 2, 3, 4, 5, 6, 7, 8, 9, 10, 11] [] rfl (by assumption) (by kernel_rfl) (by kernel_rfl) rfl ?_; show AOps .held _ _ _ [_, _, _, _, _, _, _, _, _, _, _, _] _ _; (iterate 2 refine zm ?_); (focus ((with_reducible apply AOps.index_map); (iterate 7 exact rfl); rotate_left; omega)); refine AOps.fieldAddr_rN 109 0 0 2 rfl rfl rfl rfl ?_; refine nz ?_; refine AOps.load_rn rfl rfl rfl rfl ?_; refine nz ?_; refine zL ?_; refine nz ?_; (iterate 3 refine zm ?_); (focus ((with_reducible apply AOps.index_map); (iterate 7 exact rfl); rotate_left; omega)); refine AOps.fieldAddr_rN 109 0 0 2 rfl rfl rfl rfl ?_; refine nz ?_; refine AOps.load_rn rfl rfl rfl rfl ?_; refine nz ?_; refine AOps.nil ?_; refine onlyN_n ?_; intro k_ hk_; refine AR.step1M (i := 12) rfl (by kernel_rfl) rfl ?_; intro g_ hgro_ hw_; refine zP (r1) ?_; refine AOps.nil ?_; refine onlyN_n ?_; refine AR.step1M (i := 13) rfl (by kernel_rfl) rfl ?_; intro g_ hgro_ hw_; refine zA (q1) ?_; refine AOps.nil ?_; refine onlyN_n ?_; refine AR.readsM [14, 15, 16, 17, 18, 19, 20, 21, 22, 23, 24, 25, 26, 27] (by kernel_rfl) (by kernel_rfl) (by kernel_rfl) (by kernel_rfl) ?_; intro g_ hgro_; show AOps .held _ _ _ [_, _, _, _, _, _, _, _, _, _, _, _, _, _] _ _; refine AOps.not rfl rfl rfl ?_; refine zm ?_; refine zl ?_; refine zm ?_; refine zl ?_; refine zm ?_; refine zl ?_; (focus ((with_reducible apply AOps.index_map); (iterate 7 exact rfl); rotate_left; omega)); refine zl ?_; refine AOps.fieldAddr_rN 109 1 2 2 rfl rfl rfl rfl ?_; refine nz ?_; refine zl ?_; refine AOps.load_rn rfl rfl rfl rfl ?_; refine nz ?_; refine zl ?_; refine zL ?_; refine nz ?_; refine zl ?_; refine zm ?_; refine zl ?_; refine zm ?_; refine zl ?_; refine zm ?_; refine zl ?_; (focus ((with_reducible apply AOps.index_map); (iterate 7 exact rfl); rotate_left; omega)); refine zl ?_; refine AOps.fieldAddr_rN 109 1 2 2 rfl rfl rfl rfl ?_; refine nz ?_; refine zl ?_; refine AOps.load_rn rfl rfl rfl rfl ?_; refine nz ?_; refine AOps.nil ?_; refine onlyN_n ?_; intro k_ hk_; refine AR.step1M (i := 28) rfl (by kernel_rfl) rfl ?_; intro g_ hgro_ hw_; refine zl ?_; refine zP (r2) ?_; refine AOps.nil ?_; refine onlyN_n ?_; refine AR.step1M (i := 29) rfl (by kernel_rfl) rfl ?_; intro g_ hgro_ hw_; refine zl ?_; refine zA (q2) ?_; refine AOps.nil ?_; refine onlyN_n ?_; refine AR.readsM [30, 31] (by kernel_rfl) (by kernel_rfl) (by kernel_rfl) (by kernel_rfl) ?_; intro g_ hgro_; show AOps .held _ _ _ [_, _] _ _; refine zl ?_; refine AOps.not rfl rfl rfl ?_; refine AOps.pick_lf rfl rfl rfl rfl rfl rfl ?_; refine AOps.nil ?_; refine onlyN_n ?_; intro k_ hk_; refine nz ?_; refine AR.doneM (by assumption) (by kernel_rfl) ?_; refine thenD_n ?_; refine AW.cond_lf rfl rfl ?_; refine AW.skip ?_; refine inBlockD_n ?_; refine thenD_n ?_; refine AW.region ?_; refine zm ?_; refine zj ?_; refine za ?_; refine zd ?_)
        exact ⟨k + 1, ⟨by omega, hra⟩, by omega, weak rfl (by (refine ⟨.eq rfl rfl, ?_⟩; (iterate 3 refine ⟨.eq rfl rfl, ?_⟩); exact trivial)) (by (refine ⟨.box _ rfl ?_, ?_⟩; (iterate 2 refine ⟨.eq rfl rfl, ?_⟩); (iterate 2 exact trivial))) rfl⟩
      | false =>
        rw [e1, e2] at hfx
        rw [e1] at q1
        rw [e2] at q2
        rw [hrn hfx]
        (refine zo ?_; refine zq ?_; (iterate 2 refine zm ?_); refine zn ?_; refine zs ?_; refine zd ?_; refine zc ?_; refine AW.skip ?_; refine thenD_n ?_; refine zo ?_; refine AW.block ?_; refine zo ?_; refine AW.regionM [0, 1, 2, 3, 4, 5, 6, 7, 8, 9, 10, 11] [] rfl (by assumption) (by kernel_rfl) (by kernel_rfl) rfl ?_; show AOps .held _ _ _ [_, _, _, _, _, _, _, _, _, _, _, _] _ _; (iterate 2 refine zm ?_); (focus ((with_reducible apply AOps.index_map); (iterate 7 exact rfl); rotate_left; omega)); refine AOps.fieldAddr_rN 109 0 0 2 rfl rfl rfl rfl ?_; refine nz ?_; refine AOps.load_rn rfl rfl rfl rfl ?_; refine nz ?_; refine zL ?_; refine nz ?_; (iterate 3 refine zm ?_); (focus ((with_reducible apply AOps.index_map); (iterate 7 exact rfl); rotate_left; omega)); refine AOps.fieldAddr_rN 109 0 0 2 rfl rfl rfl rfl ?_; refine nz ?_; refine AOps.load_rn rfl rfl rfl rfl ?_; refine nz ?_; refine AOps.nil ?_; refine onlyN_n ?_; intro k_ hk_; refine AR.step1M (i := 12) rfl (by kernel_rfl) rfl ?_; intro g_ hgro_ hw_; refine zP (r1) ?_; refine AOps.nil ?_; refine onlyN_n ?_; refine AR.step1M (i := 13) rfl (by kernel_rfl) rfl ?_; intro g_ hgro_ hw_; refine zA (q1) ?_; refine AOps.nil ?_; refine onlyN_n ?_; refine AR.readsM [14, 15, 16, 17, 18, 19, 20, 21, 22, 23, 24, 25, 26, 27] (by kernel_rfl) (by kernel_rfl) (by kernel_rfl) (by kernel_rfl) ?_; intro g_ hgro_; show AOps .held _ _ _ [_, _, _, _, _, _, _, _, _, _, _, _, _, _] _ _; refine AOps.not rfl rfl rfl ?_; refine zm ?_; refine zl ?_; refine zm ?_; refine zl ?_; refine zm ?_; refine zl ?_; (focus ((with_reducible apply AOps.index_map); (iterate 7 exact rfl); rotate_left; omega)); refine zl ?_; refine AOps.fieldAddr_rN 109 1 2 2 rfl rfl rfl rfl ?_; refine nz ?_; refine zl ?_; refine AOps.load_rn rfl rfl rfl rfl ?_; refine nz ?_; refine zl ?_; refine zL ?_; refine nz ?_; refine zl ?_; refine zm ?_; refine zl ?_; refine zm ?_; refine zl ?_; refine zm ?_; refine zl ?_; (focus ((with_reducible apply AOps.index_map); (iterate 7 exact rfl); rotate_left; omega)); refine zl ?_; refine AOps.fieldAddr_rN 109 1 2 2 rfl rfl rfl rfl ?_; refine nz ?_; refine zl ?_; refine AOps.load_rn rfl rfl rfl rfl ?_; refine nz ?_; refine AOps.nil ?_; refine onlyN_n ?_; intro k_ hk_; refine AR.step1M (i := 28) rfl (by kernel_rfl) rfl ?_; intro g_ hgro_ hw_; refine zl ?_; refine zP (r2) ?_; refine AOps.nil ?_; refine onlyN_n ?_; refine AR.step1M (i := 29) rfl (by kernel_rfl) rfl ?_; intro g_ hgro_ hw_; refine zl ?_; refine zA (q2) ?_; refine AOps.nil ?_; refine onlyN_n ?_; refine AR.readsM [30, 31] (by kernel_rfl) (by kernel_rfl) (by kernel_rfl) (by kernel_rfl) ?_; intro g_ hgro_; show AOps .held _ _ _ [_, _] _ _; refine zl ?_; refine AOps.not rfl rfl rfl ?_; refine AOps.pick_lf rfl rfl rfl rfl rfl rfl ?_; refine AOps.nil ?_; refine onlyN_n ?_; intro k_ hk_; refine nz ?_; refine AR.doneM (by assumption) (by kernel_rfl) ?_; refine thenD_n ?_; refine AW.cond_lt rfl rfl ?_; refine zq ?_; refine za ?_; refine zd ?_; refine AW.ret ?_; refine inBlockD_ret ?_; (iterate 2 refine thenD_ret ?_); refine inBlockD_ret ?_; refine thenD_ret ?_)
        (apply ends_ret; (exact Res.one (.tmp rfl rfl)); (refine Le.litB ?_; (rfl)))
    | false =>
      rw [e1, Bool.false_and] at hfx
      rw [e1] at q1
      rw [hrn hfx]
      (refine zo ?_; refine zq ?_; (iterate 2 refine zm ?_); refine zn ?_; refine zs ?_; refine zd ?_; refine zc ?_; refine AW.skip ?_; refine thenD_n ?_; refine zo ?_; refine AW.block ?_; refine zo ?_; refine AW.regionM [0, 1, 2, 3, 4, 5, 6, 7, 8, 9, 10, 11] [] rfl (by assumption) (by kernel_rfl) (by kernel_rfl) rfl ?_; show AOps .held _ _ _ [_, _, _, _, _, _, _, _, _, _, _, _] _ _; (iterate 2 refine zm ?_); (focus ((with_reducible apply AOps.index_map); (iterate 7 exact rfl); rotate_left; omega)); refine AOps.fieldAddr_rN 109 0 0 2 rfl rfl rfl rfl ?_; refine nz ?_; refine AOps.load_rn rfl rfl rfl rfl ?_; refine nz ?_; refine zL ?_; refine nz ?_; (iterate 3 refine zm ?_); (focus ((with_reducible apply AOps.index_map); (iterate 7 exact rfl); rotate_left; omega)); refine AOps.fieldAddr_rN 109 0 0 2 rfl rfl rfl rfl ?_; refine nz ?_; refine AOps.load_rn rfl rfl rfl rfl ?_; refine nz ?_; refine AOps.nil ?_; refine onlyN_n ?_; intro k_ hk_; refine AR.step1M (i := 12) rfl (by kernel_rfl) rfl ?_; intro g_ hgro_ hw_; refine zP (r1) ?_; refine AOps.nil ?_; refine onlyN_n ?_; refine AR.step1M (i := 13) rfl (by kernel_rfl) rfl ?_; intro g_ hgro_ hw_; refine zA (q1) ?_; refine AOps.nil ?_; refine onlyN_n ?_; refine AR.readsM [14, 15, 16, 17, 18, 19, 20, 21, 22, 23, 24, 25, 26, 27] (by kernel_rfl) (by kernel_rfl) (by kernel_rfl) (by kernel_rfl) ?_; intro g_ hgro_; show AOps .held _ _ _ [_, _, _, _, _, _, _, _, _, _, _, _, _, _] _ _; refine AOps.not rfl rfl rfl ?_; refine zm ?_; (iterate 12 refine AOps.guard_lf rfl rfl rfl rfl rfl rfl rfl ?_); refine AOps.nil ?_; refine onlyN_n ?_; intro k_ hk_; refine nz ?_; refine AR.step1M (i := 28) rfl (by kernel_rfl) rfl ?_; intro g_ hgro_ hw_; refine AOps.guard_lf rfl rfl rfl rfl rfl rfl rfl ?_; refine AOps.nil ?_; refine onlyN_n ?_; refine AR.step1M (i := 29) rfl (by kernel_rfl) rfl ?_; intro g_ hgro_ hw_; refine AOps.guard_lf rfl rfl rfl rfl rfl rfl rfl ?_; refine AOps.nil ?_; refine onlyN_n ?_; refine AR.readsM [30, 31] (by kernel_rfl) (by kernel_rfl) (by kernel_rfl) (by kernel_rfl) ?_; intro g_ hgro_; show AOps .held _ _ _ [_, _] _ _; refine AOps.guard_lf rfl rfl rfl rfl rfl rfl rfl ?_; refine AOps.pick_lt rfl rfl rfl rfl rfl rfl ?_; refine AOps.nil ?_; refine onlyN_n ?_; intro k_ hk_; refine nz ?_; refine AR.doneM (by assumption) (by kernel_rfl) ?_; refine thenD_n ?_; refine AW.cond_lt rfl rfl ?_; refine zq ?_; refine za ?_; refine zd ?_; refine AW.ret ?_; refine inBlockD_ret ?_; (iterate 2 refine thenD_ret ?_); refine inBlockD_ret ?_; refine thenD_ret ?_)
      (apply ends_ret; (exact Res.one (.tmp rfl rfl)); (refine Le.litB ?_; (rfl)))
  · obtain rfl : k = bs.length := by omega
    rw [hno]
    (refine zo ?_; refine zq ?_; (iterate 2 refine zm ?_); refine zn ?_; refine zs ?_; refine zd ?_; refine zk ?_; refine AW.exit ?_; (iterate 2 refine thenD_exit ?_); refine inBlockD_exit ?_; refine thenD_n ?_; refine zq ?_; refine nz ?_; refine za ?_; refine zd ?_; refine AW.ret ?_)
    (apply ends_ret; (exact Res.one (.tmp rfl rfl)); (refine Le.litB ?_; (rfl)))
attribute [local irreducible] symB grpM
theorem group_fn (s : SpecM) (at' : List Int) (st n : Nat) (bs : List BndM) (h : MadeOk s at' st n bs) : Fn Try.prog 35 [spc s, scp at' (st : Int), .pv (bnds bs)] (.pv (intss (grpM s at' n bs))) := by
  have ha := all11_fn at' (st : Int) n h.fit.sm h.ns h.n5
  have hal := allM_small h.n5 (srtF at') (Nat.le_refl n)
  have hfx := fun p (hp : p ∈ allM n (srtF at') n) => fixes_fn s at' (st : Int) p h.fit.sm (by have := (all_perm.1 hp).len; have := h.n5; omega)
  have hsy := fun p (hp : p ∈ allM n (srtF at') n) => symmetric_fn s at' st n bs p h (all_perm.1 hp)
  have hg : grpM s at' n bs = (allM n (srtF at') n).filter fun p => fixB s.sorts at' p && symB n (arF s.fields) p bs := by unfold grpM; rfl
  rw [hg]
  generalize allM n (srtF at') n = l at ha hal hfx hsy ⊢
  obtain ⟨so, fs, pr, fa⟩ := s
  simp only at *
  refine Fn.enter (n := 43) Try.func35 rfl rfl rfl rfl rfl (by decide) fun g hro_ hwt_ => ?_; (try refine nz ?_)
  (refine zq ?_; refine AOps.box rfl rfl rfl rfl ?_; refine nz ?_; refine AOps.box rfl rfl rfl rfl ?_; refine nz ?_; refine za ?_; refine zd ?_; refine zq ?_; refine nz ?_; refine AOps.bs0 rfl rfl rfl rfl rfl ?_; refine nz ?_; refine AOps.assign_own rfl rfl rfl ?_; refine zd ?_; refine zq ?_; refine nz ?_; refine zL ?_; refine nz ?_; refine zP (ha) ?_; refine za ?_; refine zd ?_; refine zo ?_; refine zq ?_; refine nz ?_; refine za ?_; refine zd ?_; refine AW.block ?_)
  (refine nz ?_; apply AW.loopR [8, 6, 4, 3, 2] [1, 0] (fun k : Nat => ([(9, litI k), (7, .own 2 26 1 (((l.take k).filter fun p => fixB so at' p && symB n (arF fs) p bs).map encLL))] : List (Nat × AV))) (fun k : Nat => ([(2, some .row)] : List (Nat × Option Ob))) (fun k : Nat => k ≤ l.length) (fun k : Nat => l.length - k) (0); (conv => lhs; simp only [Nf.lpR, Nf.all, Nat.reduceBEq, reduceAdd, reduceSub]); (all_goals skip))
  · exact Nat.zero_le _
  · exact weak rfl (by (refine ⟨.eq rfl rfl, ?_⟩; (iterate 6 refine ⟨.eq rfl rfl, ?_⟩); exact trivial)) (by (refine ⟨.row rfl, ?_⟩; refine ⟨.box _ rfl ?_, ?_⟩; (iterate 2 refine ⟨.eq rfl rfl, ?_⟩); exact trivial; refine ⟨.box _ rfl ?_, ?_⟩; (iterate 4 refine ⟨.eq rfl rfl, ?_⟩); (iterate 2 exact trivial))) rfl
  rintro k hk
  have hfl : ((l.take k).filter fun p => fixB so at' p && symB n (arF fs) p bs).length ≤ l.length := Nat.le_trans (List.length_filter_le _ _) (Nat.le_trans (List.length_take_le k l) hk)
  by_cases hlt : k < l.length
  · have f1 := hfx _ (List.getElem_mem hlt)
    have f2 := hsy _ (List.getElem_mem hlt)
    have hs : (l.take (k + 1)).filter (fun p => fixB so at' p && symB n (arF fs) p bs) = (l.take k).filter (fun p => fixB so at' p && symB n (arF fs) p bs) ++ if (fixB so at' l[k] && symB n (arF fs) l[k] bs) = true then [l[k]] else [] := by
      rw [take_succ_get hlt, List.filter_append, List.filter_cons]; rfl
    cases e1 : fixB so at' l[k] with
    | true =>
      rw [e1] at f1 hs
      cases e2 : symB n (arF fs) l[k] bs with
      | true =>
        rw [e2] at f2 hs
        rw [if_pos (by decide)] at hs
        (refine zo ?_; refine zq ?_; (iterate 2 refine zm ?_); refine zn ?_; refine zs ?_; refine zd ?_; refine zc ?_; refine AW.skip ?_; refine thenD_n ?_; refine zo ?_; refine AW.block ?_; refine zo ?_; (with_reducible apply AW.regionQ); exact rfl; exact rfl; kernel_rfl; (with_reducible assumption); refine zL ?_; refine nz ?_; refine zL ?_; refine nz ?_; (iterate 2 refine zm ?_); (focus ((with_reducible apply AOps.index_map); (iterate 7 exact rfl); rotate_left; omega)); refine zr ?_; refine zA (f1) ?_; refine zm ?_; refine zl ?_; refine zL ?_; refine nz ?_; refine zl ?_; refine zm ?_; refine zl ?_; refine zm ?_; refine zl ?_; refine zm ?_; refine zl ?_; (focus ((with_reducible apply AOps.index_map); (iterate 7 exact rfl); rotate_left; omega)); refine zl ?_; refine zr ?_; refine zl ?_; refine zA (f2) ?_; refine AOps.pick_lt rfl rfl rfl rfl rfl rfl ?_; refine zd ?_; refine AW.cond_lt rfl rfl ?_; refine AW.region ?_; refine nz ?_; refine AOps.move_own rfl rfl rfl ?_; (iterate 2 refine zm ?_); (focus ((with_reducible apply AOps.index_map); (iterate 7 exact rfl); rotate_left; omega)); refine zr ?_; refine AOps.bs1 rfl rfl rfl rfl rfl rfl rfl rfl ?_; refine nz ?_; (with_reducible apply AOps.appendS); exact rfl; (first | exact .pv rfl | exact .own rfl | exact .nil rfl); (iterate 9 exact rfl); (first | omega | (simp only [List.length_map, List.length_append, List.length_cons, List.length_nil, List.length_drop, List.length_take, List.length_set, chunk_len]; omega)); refine nz ?_; refine AOps.assign_own rfl rfl rfl ?_; refine AOps.nil ?_; refine inBlockD_n ?_; refine thenD_n ?_; refine AW.region ?_; refine nz ?_; refine zm ?_; refine zj ?_; refine za ?_; refine zd ?_)
        exact ⟨k + 1, by omega, by omega, weak rfl (by (refine ⟨.intE (by first | with_reducible rfl | (first | rfl | (rw [hs, List.map_append]; rfl))), ?_⟩; refine ⟨.ownE (by first | with_reducible rfl | (first | rfl | (rw [hs, List.map_append]; rfl))) rfl, ?_⟩; refine ⟨.pvE (by first | with_reducible rfl | (first | rfl | (rw [hs, List.map_append]; rfl))), ?_⟩; (iterate 3 refine ⟨.eq rfl rfl, ?_⟩); refine ⟨.pvE (by first | with_reducible rfl | (first | rfl | (rw [hs, List.map_append]; rfl))), ?_⟩; exact trivial)) (by (refine ⟨.row rfl, ?_⟩; refine ⟨.box _ rfl ?_, ?_⟩; refine ⟨.pvE (by first | with_reducible rfl | (first | rfl | (rw [hs, List.map_append]; rfl))), ?_⟩; refine ⟨.intE (by first | with_reducible rfl | (first | rfl | (rw [hs, List.map_append]; rfl))), ?_⟩; exact trivial; refine ⟨.box _ rfl ?_, ?_⟩; refine ⟨.pvE (by first | with_reducible rfl | (first | rfl | (rw [hs, List.map_append]; rfl))), ?_⟩; refine ⟨.pvE (by first | with_reducible rfl | (first | rfl | (rw [hs, List.map_append]; rfl))), ?_⟩; (iterate 2 refine ⟨.eq rfl rfl, ?_⟩); (iterate 2 exact trivial))) rfl⟩
      | false =>
        rw [e2] at f2 hs
        rw [if_neg (by decide), List.append_nil] at hs
        (refine zo ?_; refine zq ?_; (iterate 2 refine zm ?_); refine zn ?_; refine zs ?_; refine zd ?_; refine zc ?_; refine AW.skip ?_; refine thenD_n ?_; refine zo ?_; refine AW.block ?_; refine zo ?_; (with_reducible apply AW.regionQ); exact rfl; exact rfl; kernel_rfl; (with_reducible assumption); refine zL ?_; refine nz ?_; refine zL ?_; refine nz ?_; (iterate 2 refine zm ?_); (focus ((with_reducible apply AOps.index_map); (iterate 7 exact rfl); rotate_left; omega)); refine zr ?_; refine zA (f1) ?_; refine zm ?_; refine zl ?_; refine zL ?_; refine nz ?_; refine zl ?_; refine zm ?_; refine zl ?_; refine zm ?_; refine zl ?_; refine zm ?_; refine zl ?_; (focus ((with_reducible apply AOps.index_map); (iterate 7 exact rfl); rotate_left; omega)); refine zl ?_; refine zr ?_; refine zl ?_; refine zA (f2) ?_; refine AOps.pick_lt rfl rfl rfl rfl rfl rfl ?_; refine zd ?_; refine AW.cond_lf rfl rfl ?_; refine AW.skip ?_; refine inBlockD_n ?_; refine thenD_n ?_; refine AW.region ?_; refine nz ?_; refine zm ?_; refine zj ?_; refine za ?_; refine zd ?_)
        exact ⟨k + 1, by omega, by omega, weak rfl (by (refine ⟨.intE (by first | with_reducible rfl | (first | rfl | (rw [hs]))), ?_⟩; refine ⟨.ownE (by first | with_reducible rfl | (first | rfl | (rw [hs]))) rfl, ?_⟩; refine ⟨.pvE (by first | with_reducible rfl | (first | rfl | (rw [hs]))), ?_⟩; (iterate 3 refine ⟨.eq rfl rfl, ?_⟩); refine ⟨.pvE (by first | with_reducible rfl | (first | rfl | (rw [hs]))), ?_⟩; exact trivial)) (by (refine ⟨.row rfl, ?_⟩; refine ⟨.box _ rfl ?_, ?_⟩; refine ⟨.pvE (by first | with_reducible rfl | (first | rfl | (rw [hs]))), ?_⟩; refine ⟨.intE (by first | with_reducible rfl | (first | rfl | (rw [hs]))), ?_⟩; exact trivial; refine ⟨.box _ rfl ?_, ?_⟩; refine ⟨.pvE (by first | with_reducible rfl | (first | rfl | (rw [hs]))), ?_⟩; refine ⟨.pvE (by first | with_reducible rfl | (first | rfl | (rw [hs]))), ?_⟩; (iterate 2 refine ⟨.eq rfl rfl, ?_⟩); (iterate 2 exact trivial))) rfl⟩
    | false =>
      rw [e1] at f1 hs
      rw [Bool.false_and, if_neg (by decide), List.append_nil] at hs
      (refine zo ?_; refine zq ?_; (iterate 2 refine zm ?_); refine zn ?_; refine zs ?_; refine zd ?_; refine zc ?_; refine AW.skip ?_; refine thenD_n ?_; refine zo ?_; refine AW.block ?_; refine zo ?_; (with_reducible apply AW.regionQ); exact rfl; exact rfl; kernel_rfl; (with_reducible assumption); refine zL ?_; refine nz ?_; refine zL ?_; refine nz ?_; (iterate 2 refine zm ?_); (focus ((with_reducible apply AOps.index_map); (iterate 7 exact rfl); rotate_left; omega)); refine zr ?_; refine zA (f1) ?_; refine zm ?_; (iterate 7 refine AOps.guard_lf rfl rfl rfl rfl rfl rfl rfl ?_); refine AOps.pick_lf rfl rfl rfl rfl rfl rfl ?_; refine zd ?_; refine AW.cond_lf rfl rfl ?_; refine AW.skip ?_; refine inBlockD_n ?_; refine thenD_n ?_; refine AW.region ?_; refine nz ?_; refine zm ?_; refine zj ?_; refine za ?_; refine zd ?_)
      exact ⟨k + 1, by omega, by omega, weak rfl (by (refine ⟨.intE (by first | with_reducible rfl | (first | rfl | (rw [hs]))), ?_⟩; refine ⟨.ownE (by first | with_reducible rfl | (first | rfl | (rw [hs]))) rfl, ?_⟩; refine ⟨.pvE (by first | with_reducible rfl | (first | rfl | (rw [hs]))), ?_⟩; (iterate 3 refine ⟨.eq rfl rfl, ?_⟩); refine ⟨.pvE (by first | with_reducible rfl | (first | rfl | (rw [hs]))), ?_⟩; exact trivial)) (by (refine ⟨.row rfl, ?_⟩; refine ⟨.box _ rfl ?_, ?_⟩; refine ⟨.pvE (by first | with_reducible rfl | (first | rfl | (rw [hs]))), ?_⟩; refine ⟨.intE (by first | with_reducible rfl | (first | rfl | (rw [hs]))), ?_⟩; exact trivial; refine ⟨.box _ rfl ?_, ?_⟩; refine ⟨.pvE (by first | with_reducible rfl | (first | rfl | (rw [hs]))), ?_⟩; refine ⟨.pvE (by first | with_reducible rfl | (first | rfl | (rw [hs]))), ?_⟩; (iterate 2 refine ⟨.eq rfl rfl, ?_⟩); (iterate 2 exact trivial))) rfl⟩
  · rw [take_all (l := l) (by omega)]
    (refine zo ?_; refine zq ?_; (iterate 2 refine zm ?_); refine zn ?_; refine zs ?_; refine zd ?_; refine zk ?_; refine AW.exit ?_; (iterate 2 refine thenD_exit ?_); refine inBlockD_exit ?_; refine thenD_n ?_; refine zq ?_; refine nz ?_; refine AOps.move_own rfl rfl rfl ?_; refine AOps.assign_own rfl rfl rfl ?_; refine zd ?_; refine AW.ret ?_)
    (apply ends_ret; (exact Res.one (.tmp rfl rfl)); (exact Le.own _ _ _ _ rfl))
end Go.Ab
/- Chapter 24: the laws' bounds and symmetries, walked. -/
namespace Go.Ab
open Go Go.Proofs
open Nat (reduceAdd reduceSub)
set_option maxRecDepth 20000
set_option maxHeartbeats 8000000
abbrev litU16 (n : Int) : AV := .pv (.lit (.int .u16 n))
abbrev nilS : AV := .pv (.lit (.slice none 0 0))
abbrev caseA (s : SpecM) (at' : List Int) (st : Int) (raw : List (List Int)) (P Q : Int) : AV := .agg [.pv (.slice 2 (s.sorts.map encSo)), .pv (.slice 3 (s.fields.map encF)), slv s.preds, slv s.facts, .pv (ints at'), litI st, .pv (raws raw), litU16 P, litU16 Q]
theorem fits_more {s : SpecM} {at' : List Int} {st : Int} (h : fits9 s at' st = true) : at'.length ≤ 4 ∧ 1 ≤ st ∧ st ≤ 4 := by
  unfold fits9 sizedB fieldsB at h
  simp only [Bool.and_eq_true, decide_eq_true_eq, List.all_eq_true] at h
  obtain ⟨⟨h1, h2, h3, h4⟩, h5, h6, ⟨h7, h8, h9⟩, h10, h11⟩ := h
  exact ⟨h4, h8, h9⟩
theorem MadeOk.var {s : SpecM} {at' : List Int} {st n : Nat} {bs : List BndM} (h : MadeOk s at' st n bs) : VarOk s st bs := by
  have hl := good_lens h.fit h.good
  exact ⟨h.stb, ⟨h.len, by omega⟩, fun x hx => by have := hl.2 x hx; omega⟩
theorem grp_ne {s : SpecM} {at' : List Int} {st n : Nat} {bs : List BndM} (h : MadeOk s at' st n bs) : 0 < (grpM s at' n bs).length := by
  have : idA n ∈ grpM s at' n bs := grp_mem.2 (.id h.n1 h.bnd)
  exact List.length_pos_of_mem this
theorem grp_len {s : SpecM} {at' : List Int} {st n : Nat} {bs : List BndM} (h : MadeOk s at' st n bs) : (grpM s at' n bs).length ≤ 3125 := by
  unfold grpM
  exact Nat.le_trans (List.length_filter_le _ _) (allM_small h.n5 _ (Nat.le_refl n))
structure Made24 (s : SpecM) (at' : List Int) (st : Int) (raw : List (List Int)) (P Q : Int) (n m : Nat) (bs : List BndM) (p q : List Int) : Prop where
  stm : st = (m : Int)
  ok : MadeOk s at' m n bs
  mp : p ∈ grpM s at' n bs
  mq : q ∈ grpM s at' n bs
  few : (varsM 1 m (freeL 0 bs) (vrF s.fields)).length ≤ 30
  fn : Fn Try.prog 17 [caseA s at' st raw P Q] (.tup [.pv (bnds bs), .pv (intss (grpM s at' n bs)), .pv (ints p), .pv (ints q), litB true])
attribute [local irreducible] AW AOps thenD inBlockD AR iterEnds roundEndsN inlEnds noGotoD grpM varsM freeL madeL fits9
theorem sum_le5 {l : List Int} (h : ∀ x ∈ l, 0 ≤ x ∧ x ≤ 5) : 0 ≤ l.sum ∧ l.sum ≤ 5 * l.length := by
  induction l with
  | nil => simp
  | cons x l ih =>
    have h1 := h x (by simp)
    have h2 := ih fun y hy => h y (by simp [hy])
    simp only [List.sum_cons, List.length_cons]
    omega
theorem made24_fn (s : SpecM) (at' : List Int) (st : Int) (raw : List (List Int)) (P Q : Int) (hraw : ∀ r ∈ raw, ∀ x ∈ r, 0 ≤ x ∧ x ≤ 255) (hP : 0 ≤ P ∧ P ≤ 65535) (hQ : 0 ≤ Q ∧ Q ≤ 65535) :
    Fn Try.prog 17 [caseA s at' st raw P Q] (.tup [nilS, nilS, nilS, nilS, litB false]) ∨ ∃ (n m : Nat) (bs : List BndM) (p q : List Int), Made24 s at' st raw P Q n m bs p q := by
  have hfi := fits9_fn s at' st
  by_cases h5 : at'.length ≤ 4 ∧ (∀ x ∈ at', 0 ≤ x ∧ x ≤ 5) ∧ at'.sum ≤ 5 ∧ fits9 s at' st = true
  · obtain ⟨h4, hx, hs5, hft⟩ := h5
    have hf := fit_of hft
    obtain ⟨_, hst1, hst4⟩ := fits_more hft
    obtain ⟨m, rfl⟩ : ∃ m : Nat, st = (m : Int) := ⟨st.toNat, by omega⟩
    obtain ⟨n, hn⟩ : ∃ n : Nat, (n : Int) = at'.sum := ⟨at'.sum.toNat, by have := hf.one; omega⟩
    have hmf := made_fn s at' (m : Int) raw hraw hf.cols (by have := hf.fs; omega) hf.sm hf.top hf.one
    have hgd := good_made hf raw
    generalize madeL at' raw 0 s.fields = bs at hmf hgd
    have hok : MadeOk s at' m n bs := ⟨hf, hn, by have := hf.one; omega, by omega, by omega, hgd, h4, fun x h => (hx x h).2⟩
    have hgf := group_fn s at' m n bs hok
    have hvf := vars24_fn s at' m bs hok.var
    have hgn := grp_ne hok
    have hgl := grp_len hok
    rw [hft] at hfi
    have hvr : (fun f => (s.fields.getD f.toNat ⟨ByteArray.empty, [], false⟩).var) = vrF s.fields := rfl
    rw [hvr] at hvf
    by_cases h30 : 30 < ((varsM 1 m (freeL 0 bs) (vrF s.fields)).length : Int)
    · left
      generalize grpM s at' n bs = l at hgf hgn hgl
      generalize varsM 1 m (freeL 0 bs) (vrF s.fields) = vl at hvf h30
      obtain ⟨so, fs, pr, fa⟩ := s
      refine Fn.enter (n := 103) Try.func17 rfl rfl rfl rfl rfl (by decide) fun g hro_ hwt_ => ?_; (try refine nz ?_)
      (refine zq ?_; refine AOps.box rfl rfl rfl rfl ?_; refine nz ?_; (iterate 5 refine za ?_); refine zd ?_; refine zq ?_; refine nz ?_; refine za ?_; refine zd ?_; refine zo ?_; refine zq ?_; refine nz ?_; refine za ?_; refine zd ?_; refine AW.block ?_)
      (refine nz ?_; apply AW.loopR [1] [0] (fun k : Nat => ([(8, litI k), (7, litI (at'.take k).sum)] : List (Nat × AV))) (fun k : Nat => ([] : List (Nat × Option Ob))) (fun k : Nat => k ≤ at'.length) (fun k : Nat => at'.length - k) (0); (conv => lhs; simp only [Nf.lpR, Nf.all, Nat.reduceBEq, reduceAdd, reduceSub]); (all_goals skip))
      · exact Nat.zero_le _
      · exact weak rfl (by (refine ⟨.eq rfl rfl, ?_⟩; (iterate 2 refine ⟨.eq rfl rfl, ?_⟩); exact trivial)) (by (refine ⟨.box _ rfl ?_, ?_⟩; (iterate 9 refine ⟨.eq rfl rfl, ?_⟩); (iterate 2 exact trivial))) rfl
      rintro k hk
      have hxt : ∀ x ∈ at'.take k, 0 ≤ x ∧ x ≤ 5 := fun x h => hx x (List.mem_of_mem_take h)
      have hsb := sum_le5 hxt
      have htl := List.length_take_le k at'
      by_cases hlt : k < at'.length
      · have hxk := hx _ (List.getElem_mem hlt)
        have hs := sum_snoc at' hlt
        (refine zo ?_; refine zq ?_; refine zm ?_; refine AOps.fieldAddrN 54 1 4 rfl rfl rfl rfl ?_; refine AOps.fieldAddrN 49 0 0 rfl rfl rfl rfl ?_; refine zb ?_; refine zn ?_; refine zs ?_; refine zm ?_; refine zt ?_; refine zm ?_; refine zt ?_; refine zs ?_; refine zT ?_; refine zd ?_; refine zc ?_; refine AW.skip ?_; refine thenD_n ?_; refine zo ?_; refine AW.block ?_; refine zq ?_; refine nz ?_; refine zm ?_; refine AOps.fieldAddrN 54 1 4 rfl rfl rfl rfl ?_; refine AOps.fieldAddrN 49 0 0 rfl rfl rfl rfl ?_; refine zb ?_; refine zm ?_; (focus ((with_reducible apply AOps.index_map); (iterate 7 exact rfl); rotate_left; omega)); refine zr ?_; refine zj ?_; refine za ?_; refine zd ?_; refine zq ?_; refine nz ?_; refine AOps.fieldAddrN 54 1 4 rfl rfl rfl rfl ?_; refine AOps.fieldAddrN 49 0 0 rfl rfl rfl rfl ?_; refine zb ?_; refine zm ?_; (focus ((with_reducible apply AOps.index_map); (iterate 7 exact rfl); rotate_left; omega)); refine zr ?_; refine zs ?_; refine zm ?_; refine zy ?_; refine AOps.fieldAddrN 54 1 4 rfl rfl rfl rfl ?_; refine zy ?_; refine AOps.fieldAddrN 49 0 0 rfl rfl rfl rfl ?_; refine zy ?_; refine zb ?_; refine zy ?_; refine zm ?_; refine zy ?_; (focus ((with_reducible apply AOps.index_map); (iterate 7 exact rfl); rotate_left; omega)); refine zy ?_; refine zr ?_; refine zy ?_; refine AOps.gtr rfl rfl rfl rfl rfl ?_; refine zF ?_; refine zd ?_; refine zk ?_; refine AW.skip ?_; refine inBlockD_n ?_; refine thenD_n ?_; refine AW.region ?_; refine nz ?_; refine zm ?_; refine zj ?_; refine za ?_; refine zd ?_)
        exact ⟨k + 1, by omega, by omega, weak rfl (by (refine ⟨.intE (by first | with_reducible rfl | (first | rfl | (rw [hs]))), ?_⟩; refine ⟨.intE (by first | with_reducible rfl | (first | rfl | (rw [hs]))), ?_⟩; refine ⟨.eq rfl rfl, ?_⟩; exact trivial)) (by (refine ⟨.box _ rfl ?_, ?_⟩; refine ⟨.pvE (by first | with_reducible rfl | (first | rfl | (rw [hs]))), ?_⟩; refine ⟨.pvE (by first | with_reducible rfl | (first | rfl | (rw [hs]))), ?_⟩; (iterate 2 refine ⟨.eq rfl rfl, ?_⟩); refine ⟨.pvE (by first | with_reducible rfl | (first | rfl | (rw [hs]))), ?_⟩; refine ⟨.intE (by first | with_reducible rfl | (first | rfl | (rw [hs]))), ?_⟩; refine ⟨.pvE (by first | with_reducible rfl | (first | rfl | (rw [hs]))), ?_⟩; refine ⟨.intE (by first | with_reducible rfl | (first | rfl | (rw [hs]))), ?_⟩; refine ⟨.intE (by first | with_reducible rfl | (first | rfl | (rw [hs]))), ?_⟩; (iterate 2 exact trivial))) rfl⟩
      · have e : at'.take k = at' := List.take_of_length_le (by omega)
        rw [e]
        (refine zo ?_; refine zq ?_; refine zm ?_; refine AOps.fieldAddrN 54 1 4 rfl rfl rfl rfl ?_; refine AOps.fieldAddrN 49 0 0 rfl rfl rfl rfl ?_; refine zb ?_; refine zn ?_; refine zs ?_; refine zm ?_; (iterate 2 refine AOps.guardTn rfl rfl rfl rfl rfl rfl (by first | omega | decide) ?_); refine zF ?_; refine zd ?_; refine AW.cond_lf rfl rfl ?_; refine AW.exit ?_; (iterate 2 refine thenD_exit ?_); refine inBlockD_exit ?_; refine thenD_n ?_; refine zo ?_; refine zq ?_; refine nz ?_; refine zm ?_; refine AOps.gtr rfl rfl rfl rfl rfl ?_; refine zm ?_; refine zy ?_; refine AOps.fieldAddrN 54 0 0 rfl rfl rfl rfl ?_; refine zy ?_; (with_reducible apply AOps.load_bs); (iterate 3 exact rfl); (repeat' first | exact Sub.nil | apply Sub.take | apply Sub.skip); (iterate 3 exact rfl); refine zy ?_; refine AOps.fieldAddrN 54 1 4 rfl rfl rfl rfl ?_; refine zy ?_; (with_reducible apply AOps.load_bs); (iterate 3 exact rfl); (repeat' first | exact Sub.nil | apply Sub.take | apply Sub.skip); (iterate 3 exact rfl); refine zy ?_; refine zA (hfi) ?_; refine zy ?_; refine AOps.not rfl rfl rfl ?_; refine zF ?_; refine zd ?_; refine AW.cond_lf rfl rfl ?_; refine AW.skip ?_; refine thenD_n ?_; refine zq ?_; refine nz ?_; refine AOps.fieldAddrN 54 0 0 rfl rfl rfl rfl ?_; (with_reducible apply AOps.load_bs); (iterate 3 exact rfl); (repeat' first | exact Sub.nil | apply Sub.take | apply Sub.skip); (iterate 3 exact rfl); refine AOps.fieldAddrN 54 1 4 rfl rfl rfl rfl ?_; (with_reducible apply AOps.load_bs); (iterate 3 exact rfl); (repeat' first | exact Sub.nil | apply Sub.take | apply Sub.skip); (iterate 3 exact rfl); refine AOps.fieldAddrN 54 2 6 rfl rfl rfl rfl ?_; refine zb ?_; refine zP (hmf) ?_; refine za ?_; refine zd ?_; refine zq ?_; refine nz ?_; refine AOps.fieldAddrN 54 0 0 rfl rfl rfl rfl ?_; (with_reducible apply AOps.load_bs); (iterate 3 exact rfl); (repeat' first | exact Sub.nil | apply Sub.take | apply Sub.skip); (iterate 3 exact rfl); refine AOps.fieldAddrN 54 1 4 rfl rfl rfl rfl ?_; (with_reducible apply AOps.load_bs); (iterate 3 exact rfl); (repeat' first | exact Sub.nil | apply Sub.take | apply Sub.skip); (iterate 3 exact rfl); refine zm ?_; refine zP (hgf) ?_; refine za ?_; refine zd ?_; refine zo ?_; refine zq ?_; refine nz ?_; refine zm ?_; refine zn ?_; refine AOps.eql rfl rfl rfl rfl rfl ?_; refine zm ?_; refine zy ?_; refine AOps.fieldAddrN 54 0 0 rfl rfl rfl rfl ?_; refine zy ?_; (with_reducible apply AOps.load_bs); (iterate 3 exact rfl); (repeat' first | exact Sub.nil | apply Sub.take | apply Sub.skip); (iterate 3 exact rfl); refine zy ?_; refine AOps.fieldAddrN 54 1 4 rfl rfl rfl rfl ?_; refine zy ?_; (with_reducible apply AOps.load_bs); (iterate 3 exact rfl); (repeat' first | exact Sub.nil | apply Sub.take | apply Sub.skip); (iterate 3 exact rfl); refine zy ?_; refine zm ?_; refine zy ?_; refine zP (hvf) ?_; refine zy ?_; refine zn ?_; refine zy ?_; refine AOps.gtr rfl rfl rfl rfl rfl ?_; refine zF ?_; refine zd ?_; refine zc ?_; refine zq ?_; refine nz ?_; (iterate 5 refine za ?_); refine zd ?_; refine AW.ret ?_; refine thenD_ret ?_)
        all_goals (apply ends_ret; (exact Res.five (.tmp rfl rfl) (.tmp rfl rfl) (.tmp rfl rfl) (.tmp rfl rfl) (.tmp rfl rfl)); (refine Le.tupL ?_; refine LeL.cons ?_ ?_; exact Le.pv _; refine LeL.cons ?_ ?_; exact Le.pv _; refine LeL.cons ?_ ?_; exact Le.pv _; refine LeL.cons ?_ ?_; exact Le.pv _; refine LeL.cons ?_ ?_; refine Le.litB ?_; (rfl); exact LeL.nil))
    · right
      obtain ⟨p, hp, q, hq, hfn⟩ : ∃ p ∈ grpM s at' n bs, ∃ q ∈ grpM s at' n bs, Fn Try.prog 17 [caseA s at' (m : Int) raw P Q] (.tup [.pv (bnds bs), .pv (intss (grpM s at' n bs)), .pv (ints p), .pv (ints q), litB true]) := by
        generalize grpM s at' n bs = l at hgf hgn hgl ⊢
        have hp0 : 0 ≤ P % (l.length : Int) := Int.emod_nonneg _ (by omega)
        have hp1 : P % (l.length : Int) < (l.length : Int) := Int.emod_lt_of_pos _ (by omega)
        have hq0 : 0 ≤ Q % (l.length : Int) := Int.emod_nonneg _ (by omega)
        have hq1 : Q % (l.length : Int) < (l.length : Int) := Int.emod_lt_of_pos _ (by omega)
        refine ⟨l[(P % (l.length : Int)).toNat]'(by omega), List.getElem_mem _, l[(Q % (l.length : Int)).toNat]'(by omega), List.getElem_mem _, ?_⟩
        generalize varsM 1 m (freeL 0 bs) (vrF s.fields) = vl at hvf h30
        obtain ⟨so, fs, pr, fa⟩ := s
        refine Fn.enter (n := 103) Try.func17 rfl rfl rfl rfl rfl (by decide) fun g hro_ hwt_ => ?_; (try refine nz ?_)
        (refine zq ?_; refine AOps.box rfl rfl rfl rfl ?_; refine nz ?_; (iterate 5 refine za ?_); refine zd ?_; refine zq ?_; refine nz ?_; refine za ?_; refine zd ?_; refine zo ?_; refine zq ?_; refine nz ?_; refine za ?_; refine zd ?_; refine AW.block ?_)
        (refine nz ?_; apply AW.loopR [1] [0] (fun k : Nat => ([(8, litI k), (7, litI (at'.take k).sum)] : List (Nat × AV))) (fun k : Nat => ([] : List (Nat × Option Ob))) (fun k : Nat => k ≤ at'.length) (fun k : Nat => at'.length - k) (0); (conv => lhs; simp only [Nf.lpR, Nf.all, Nat.reduceBEq, reduceAdd, reduceSub]); (all_goals skip))
        · exact Nat.zero_le _
        · exact weak rfl (by (refine ⟨.eq rfl rfl, ?_⟩; (iterate 2 refine ⟨.eq rfl rfl, ?_⟩); exact trivial)) (by (refine ⟨.box _ rfl ?_, ?_⟩; (iterate 9 refine ⟨.eq rfl rfl, ?_⟩); (iterate 2 exact trivial))) rfl
        rintro k hk
        have hxt : ∀ x ∈ at'.take k, 0 ≤ x ∧ x ≤ 5 := fun x h => hx x (List.mem_of_mem_take h)
        have hsb := sum_le5 hxt
        have htl := List.length_take_le k at'
        by_cases hlt : k < at'.length
        · have hxk := hx _ (List.getElem_mem hlt)
          have hs := sum_snoc at' hlt
          (refine zo ?_; refine zq ?_; refine zm ?_; refine AOps.fieldAddrN 54 1 4 rfl rfl rfl rfl ?_; refine AOps.fieldAddrN 49 0 0 rfl rfl rfl rfl ?_; refine zb ?_; refine zn ?_; refine zs ?_; refine zm ?_; refine zt ?_; refine zm ?_; refine zt ?_; refine zs ?_; refine zT ?_; refine zd ?_; refine zc ?_; refine AW.skip ?_; refine thenD_n ?_; refine zo ?_; refine AW.block ?_; refine zq ?_; refine nz ?_; refine zm ?_; refine AOps.fieldAddrN 54 1 4 rfl rfl rfl rfl ?_; refine AOps.fieldAddrN 49 0 0 rfl rfl rfl rfl ?_; refine zb ?_; refine zm ?_; (focus ((with_reducible apply AOps.index_map); (iterate 7 exact rfl); rotate_left; omega)); refine zr ?_; refine zj ?_; refine za ?_; refine zd ?_; refine zq ?_; refine nz ?_; refine AOps.fieldAddrN 54 1 4 rfl rfl rfl rfl ?_; refine AOps.fieldAddrN 49 0 0 rfl rfl rfl rfl ?_; refine zb ?_; refine zm ?_; (focus ((with_reducible apply AOps.index_map); (iterate 7 exact rfl); rotate_left; omega)); refine zr ?_; refine zs ?_; refine zm ?_; refine zy ?_; refine AOps.fieldAddrN 54 1 4 rfl rfl rfl rfl ?_; refine zy ?_; refine AOps.fieldAddrN 49 0 0 rfl rfl rfl rfl ?_; refine zy ?_; refine zb ?_; refine zy ?_; refine zm ?_; refine zy ?_; (focus ((with_reducible apply AOps.index_map); (iterate 7 exact rfl); rotate_left; omega)); refine zy ?_; refine zr ?_; refine zy ?_; refine AOps.gtr rfl rfl rfl rfl rfl ?_; refine zF ?_; refine zd ?_; refine zk ?_; refine AW.skip ?_; refine inBlockD_n ?_; refine thenD_n ?_; refine AW.region ?_; refine nz ?_; refine zm ?_; refine zj ?_; refine za ?_; refine zd ?_)
          exact ⟨k + 1, by omega, by omega, weak rfl (by (refine ⟨.intE (by first | with_reducible rfl | (first | rfl | (rw [hs]))), ?_⟩; refine ⟨.intE (by first | with_reducible rfl | (first | rfl | (rw [hs]))), ?_⟩; refine ⟨.eq rfl rfl, ?_⟩; exact trivial)) (by (refine ⟨.box _ rfl ?_, ?_⟩; refine ⟨.pvE (by first | with_reducible rfl | (first | rfl | (rw [hs]))), ?_⟩; refine ⟨.pvE (by first | with_reducible rfl | (first | rfl | (rw [hs]))), ?_⟩; (iterate 2 refine ⟨.eq rfl rfl, ?_⟩); refine ⟨.pvE (by first | with_reducible rfl | (first | rfl | (rw [hs]))), ?_⟩; refine ⟨.intE (by first | with_reducible rfl | (first | rfl | (rw [hs]))), ?_⟩; refine ⟨.pvE (by first | with_reducible rfl | (first | rfl | (rw [hs]))), ?_⟩; refine ⟨.intE (by first | with_reducible rfl | (first | rfl | (rw [hs]))), ?_⟩; refine ⟨.intE (by first | with_reducible rfl | (first | rfl | (rw [hs]))), ?_⟩; (iterate 2 exact trivial))) rfl⟩
        · have e : at'.take k = at' := List.take_of_length_le (by omega)
          rw [e]
          (refine zo ?_; refine zq ?_; refine zm ?_; refine AOps.fieldAddrN 54 1 4 rfl rfl rfl rfl ?_; refine AOps.fieldAddrN 49 0 0 rfl rfl rfl rfl ?_; refine zb ?_; refine zn ?_; refine zs ?_; refine zm ?_; (iterate 2 refine AOps.guardTn rfl rfl rfl rfl rfl rfl (by first | omega | decide) ?_); refine zF ?_; refine zd ?_; refine AW.cond_lf rfl rfl ?_; refine AW.exit ?_; (iterate 2 refine thenD_exit ?_); refine inBlockD_exit ?_; refine thenD_n ?_; refine zo ?_; refine zq ?_; refine nz ?_; refine zm ?_; refine AOps.gtr rfl rfl rfl rfl rfl ?_; refine zm ?_; refine zy ?_; refine AOps.fieldAddrN 54 0 0 rfl rfl rfl rfl ?_; refine zy ?_; (with_reducible apply AOps.load_bs); (iterate 3 exact rfl); (repeat' first | exact Sub.nil | apply Sub.take | apply Sub.skip); (iterate 3 exact rfl); refine zy ?_; refine AOps.fieldAddrN 54 1 4 rfl rfl rfl rfl ?_; refine zy ?_; (with_reducible apply AOps.load_bs); (iterate 3 exact rfl); (repeat' first | exact Sub.nil | apply Sub.take | apply Sub.skip); (iterate 3 exact rfl); refine zy ?_; refine zA (hfi) ?_; refine zy ?_; refine AOps.not rfl rfl rfl ?_; refine zF ?_; refine zd ?_; refine AW.cond_lf rfl rfl ?_; refine AW.skip ?_; refine thenD_n ?_; refine zq ?_; refine nz ?_; refine AOps.fieldAddrN 54 0 0 rfl rfl rfl rfl ?_; (with_reducible apply AOps.load_bs); (iterate 3 exact rfl); (repeat' first | exact Sub.nil | apply Sub.take | apply Sub.skip); (iterate 3 exact rfl); refine AOps.fieldAddrN 54 1 4 rfl rfl rfl rfl ?_; (with_reducible apply AOps.load_bs); (iterate 3 exact rfl); (repeat' first | exact Sub.nil | apply Sub.take | apply Sub.skip); (iterate 3 exact rfl); refine AOps.fieldAddrN 54 2 6 rfl rfl rfl rfl ?_; refine zb ?_; refine zP (hmf) ?_; refine za ?_; refine zd ?_; refine zq ?_; refine nz ?_; refine AOps.fieldAddrN 54 0 0 rfl rfl rfl rfl ?_; (with_reducible apply AOps.load_bs); (iterate 3 exact rfl); (repeat' first | exact Sub.nil | apply Sub.take | apply Sub.skip); (iterate 3 exact rfl); refine AOps.fieldAddrN 54 1 4 rfl rfl rfl rfl ?_; (with_reducible apply AOps.load_bs); (iterate 3 exact rfl); (repeat' first | exact Sub.nil | apply Sub.take | apply Sub.skip); (iterate 3 exact rfl); refine zm ?_; refine zP (hgf) ?_; refine za ?_; refine zd ?_; refine zo ?_; refine zq ?_; refine nz ?_; refine zm ?_; refine zn ?_; refine AOps.eql rfl rfl rfl rfl rfl ?_; refine zm ?_; refine zy ?_; refine AOps.fieldAddrN 54 0 0 rfl rfl rfl rfl ?_; refine zy ?_; (with_reducible apply AOps.load_bs); (iterate 3 exact rfl); (repeat' first | exact Sub.nil | apply Sub.take | apply Sub.skip); (iterate 3 exact rfl); refine zy ?_; refine AOps.fieldAddrN 54 1 4 rfl rfl rfl rfl ?_; refine zy ?_; (with_reducible apply AOps.load_bs); (iterate 3 exact rfl); (repeat' first | exact Sub.nil | apply Sub.take | apply Sub.skip); (iterate 3 exact rfl); refine zy ?_; refine zm ?_; refine zy ?_; refine zP (hvf) ?_; refine zy ?_; refine zn ?_; refine zy ?_; refine AOps.gtr rfl rfl rfl rfl rfl ?_; refine zF ?_; refine zd ?_; refine zk ?_; refine AW.skip ?_; refine thenD_n ?_; refine zo ?_; (with_reducible apply AW.regionQ); exact rfl; exact rfl; kernel_rfl; (with_reducible assumption); (iterate 3 refine zm ?_); refine AOps.fieldAddrN 54 3 7 rfl rfl rfl rfl ?_; refine zb ?_; refine AOps.convI rfl rfl rfl rfl rfl (by omega) ?_; refine zm ?_; refine zn ?_; refine AOps.remE rfl rfl rfl rfl rfl (by omega) ?_; (focus ((with_reducible apply AOps.index_mapI); (iterate 7 exact rfl); omega; rotate_left; (first | omega | exact Nat.zero_lt_one | exact (by simp)))); refine zr ?_; refine zm ?_; refine AOps.fieldAddrN 54 4 8 rfl rfl rfl rfl ?_; refine zb ?_; refine AOps.convI rfl rfl rfl rfl rfl (by omega) ?_; refine zm ?_; refine zn ?_; refine AOps.remE rfl rfl rfl rfl rfl (by omega) ?_; (focus ((with_reducible apply AOps.index_mapI); (iterate 7 exact rfl); omega; rotate_left; (first | omega | exact Nat.zero_lt_one | exact (by simp)))); refine zr ?_; (iterate 5 refine za ?_); refine zd ?_; refine AW.ret ?_)
          all_goals (apply ends_ret; (exact Res.five (.tmp rfl rfl) (.tmp rfl rfl) (.tmp rfl rfl) (.tmp rfl rfl) (.tmp rfl rfl)); (refine Le.tupL ?_; refine LeL.cons ?_ ?_; refine Le.pvE ?_; (rfl); refine LeL.cons ?_ ?_; refine Le.pvE ?_; (rfl); refine LeL.cons ?_ ?_; refine Le.pvE ?_; (rfl); refine LeL.cons ?_ ?_; refine Le.pvE ?_; (rfl); refine LeL.cons ?_ ?_; refine Le.litB ?_; (rfl); exact LeL.nil))
      exact ⟨n, m, bs, p, q, ⟨rfl, hok, hp, hq, by omega, hfn⟩⟩
  · left
    obtain ⟨so, fs, pr, fa⟩ := s
    refine Fn.enter (n := 103) Try.func17 rfl rfl rfl rfl rfl (by decide) fun g hro_ hwt_ => ?_; (try refine nz ?_)
    (refine zq ?_; refine AOps.box rfl rfl rfl rfl ?_; refine nz ?_; (iterate 5 refine za ?_); refine zd ?_; refine zq ?_; refine nz ?_; refine za ?_; refine zd ?_; refine zo ?_; refine zq ?_; refine nz ?_; refine za ?_; refine zd ?_; refine AW.block ?_)
    (refine nz ?_; apply AW.loopR [1] [0] (fun k : Nat => ([(8, litI k), (7, litI (at'.take k).sum)] : List (Nat × AV))) (fun k : Nat => ([] : List (Nat × Option Ob))) (fun k : Nat => k ≤ at'.length ∧ k ≤ 4 ∧ ∀ x ∈ at'.take k, 0 ≤ x ∧ x ≤ 5) (fun k : Nat => at'.length - k) (0); (conv => lhs; simp only [Nf.lpR, Nf.all, Nat.reduceBEq, reduceAdd, reduceSub]); (all_goals skip))
    · exact ⟨Nat.zero_le _, Nat.zero_le _, by simp⟩
    · exact weak rfl (by (refine ⟨.eq rfl rfl, ?_⟩; (iterate 2 refine ⟨.eq rfl rfl, ?_⟩); exact trivial)) (by (refine ⟨.box _ rfl ?_, ?_⟩; (iterate 9 refine ⟨.eq rfl rfl, ?_⟩); (iterate 2 exact trivial))) rfl
    rintro k ⟨hk, hk4, hx⟩
    have hsb := sum_le5 hx
    have htl := List.length_take_le k at'
    by_cases hlt : k < at'.length ∧ k < 4
    · obtain ⟨hlt, hlt4⟩ := hlt
      by_cases hxk : 0 ≤ at'[k] ∧ at'[k] ≤ 5
      · have hs := sum_snoc at' hlt
        have hx' : ∀ x ∈ at'.take (k + 1), 0 ≤ x ∧ x ≤ 5 := by
          rw [take_succ_get hlt]
          intro x h
          rcases List.mem_append.1 h with h | h
          · exact hx x h
          · rw [List.mem_singleton] at h; subst h; exact hxk
        (refine zo ?_; refine zq ?_; refine zm ?_; refine AOps.fieldAddrN 54 1 4 rfl rfl rfl rfl ?_; refine AOps.fieldAddrN 49 0 0 rfl rfl rfl rfl ?_; refine zb ?_; refine zn ?_; refine zs ?_; refine zm ?_; refine zt ?_; refine zm ?_; refine zt ?_; refine zs ?_; refine zT ?_; refine zd ?_; refine zc ?_; refine AW.skip ?_; refine thenD_n ?_; refine zo ?_; refine AW.block ?_; refine zq ?_; refine nz ?_; refine zm ?_; refine AOps.fieldAddrN 54 1 4 rfl rfl rfl rfl ?_; refine AOps.fieldAddrN 49 0 0 rfl rfl rfl rfl ?_; refine zb ?_; refine zm ?_; (focus ((with_reducible apply AOps.index_map); (iterate 7 exact rfl); rotate_left; omega)); refine zr ?_; refine zj ?_; refine za ?_; refine zd ?_; refine zq ?_; refine nz ?_; refine AOps.fieldAddrN 54 1 4 rfl rfl rfl rfl ?_; refine AOps.fieldAddrN 49 0 0 rfl rfl rfl rfl ?_; refine zb ?_; refine zm ?_; (focus ((with_reducible apply AOps.index_map); (iterate 7 exact rfl); rotate_left; omega)); refine zr ?_; refine zs ?_; refine zm ?_; refine zy ?_; refine AOps.fieldAddrN 54 1 4 rfl rfl rfl rfl ?_; refine zy ?_; refine AOps.fieldAddrN 49 0 0 rfl rfl rfl rfl ?_; refine zy ?_; refine zb ?_; refine zy ?_; refine zm ?_; refine zy ?_; (focus ((with_reducible apply AOps.index_map); (iterate 7 exact rfl); rotate_left; omega)); refine zy ?_; refine zr ?_; refine zy ?_; refine AOps.gtr rfl rfl rfl rfl rfl ?_; refine zF ?_; refine zd ?_; refine zk ?_; refine AW.skip ?_; refine inBlockD_n ?_; refine thenD_n ?_; refine AW.region ?_; refine nz ?_; refine zm ?_; refine zj ?_; refine za ?_; refine zd ?_)
        exact ⟨k + 1, ⟨by omega, by omega, hx'⟩, by omega, weak rfl (by (refine ⟨.intE (by first | with_reducible rfl | (first | rfl | (rw [hs]))), ?_⟩; refine ⟨.intE (by first | with_reducible rfl | (first | rfl | (rw [hs]))), ?_⟩; refine ⟨.eq rfl rfl, ?_⟩; exact trivial)) (by (refine ⟨.box _ rfl ?_, ?_⟩; refine ⟨.pvE (by first | with_reducible rfl | (first | rfl | (rw [hs]))), ?_⟩; refine ⟨.pvE (by first | with_reducible rfl | (first | rfl | (rw [hs]))), ?_⟩; (iterate 2 refine ⟨.eq rfl rfl, ?_⟩); refine ⟨.pvE (by first | with_reducible rfl | (first | rfl | (rw [hs]))), ?_⟩; refine ⟨.intE (by first | with_reducible rfl | (first | rfl | (rw [hs]))), ?_⟩; refine ⟨.pvE (by first | with_reducible rfl | (first | rfl | (rw [hs]))), ?_⟩; refine ⟨.intE (by first | with_reducible rfl | (first | rfl | (rw [hs]))), ?_⟩; refine ⟨.intE (by first | with_reducible rfl | (first | rfl | (rw [hs]))), ?_⟩; (iterate 2 exact trivial))) rfl⟩
      · by_cases hn0 : at'[k] < 0
        · (refine zo ?_; refine zq ?_; refine zm ?_; refine AOps.fieldAddrN 54 1 4 rfl rfl rfl rfl ?_; refine AOps.fieldAddrN 49 0 0 rfl rfl rfl rfl ?_; refine zb ?_; refine zn ?_; refine zs ?_; refine zm ?_; refine zt ?_; refine zm ?_; refine zt ?_; refine zs ?_; refine zT ?_; refine zd ?_; refine zc ?_; refine AW.skip ?_; refine thenD_n ?_; refine zo ?_; refine AW.block ?_; refine zq ?_; refine nz ?_; refine zm ?_; refine AOps.fieldAddrN 54 1 4 rfl rfl rfl rfl ?_; refine AOps.fieldAddrN 49 0 0 rfl rfl rfl rfl ?_; refine zb ?_; refine zm ?_; (focus ((with_reducible apply AOps.index_map); (iterate 7 exact rfl); rotate_left; omega)); refine zr ?_; refine AOps.addw rfl rfl rfl rfl rfl ?_; refine za ?_; refine zd ?_; refine zq ?_; refine nz ?_; refine AOps.fieldAddrN 54 1 4 rfl rfl rfl rfl ?_; refine AOps.fieldAddrN 49 0 0 rfl rfl rfl rfl ?_; refine zb ?_; refine zm ?_; (focus ((with_reducible apply AOps.index_map); (iterate 7 exact rfl); rotate_left; omega)); refine zr ?_; refine zs ?_; refine zm ?_; (iterate 7 refine AOps.guardFn rfl rfl rfl rfl rfl rfl (by with_reducible assumption) ?_); refine zT ?_; refine zd ?_; refine AW.cond_lt rfl rfl ?_; refine zq ?_; refine nz ?_; (iterate 5 refine za ?_); refine zd ?_; refine AW.ret ?_; refine inBlockD_ret ?_; (iterate 2 refine thenD_ret ?_); refine inBlockD_ret ?_; refine thenD_ret ?_)
          (apply ends_ret; (exact Res.five (.tmp rfl rfl) (.tmp rfl rfl) (.tmp rfl rfl) (.tmp rfl rfl) (.tmp rfl rfl)); (refine Le.tupL ?_; refine LeL.cons ?_ ?_; exact Le.pv _; refine LeL.cons ?_ ?_; exact Le.pv _; refine LeL.cons ?_ ?_; exact Le.pv _; refine LeL.cons ?_ ?_; exact Le.pv _; refine LeL.cons ?_ ?_; refine Le.litB ?_; (rfl); exact LeL.nil))
        · have hn5 : 5 < at'[k] := by omega
          (refine zo ?_; refine zq ?_; refine zm ?_; refine AOps.fieldAddrN 54 1 4 rfl rfl rfl rfl ?_; refine AOps.fieldAddrN 49 0 0 rfl rfl rfl rfl ?_; refine zb ?_; refine zn ?_; refine zs ?_; refine zm ?_; refine zt ?_; refine zm ?_; refine zt ?_; refine zs ?_; refine zT ?_; refine zd ?_; refine zc ?_; refine AW.skip ?_; refine thenD_n ?_; refine zo ?_; refine AW.block ?_; refine zq ?_; refine nz ?_; refine zm ?_; refine AOps.fieldAddrN 54 1 4 rfl rfl rfl rfl ?_; refine AOps.fieldAddrN 49 0 0 rfl rfl rfl rfl ?_; refine zb ?_; refine zm ?_; (focus ((with_reducible apply AOps.index_map); (iterate 7 exact rfl); rotate_left; omega)); refine zr ?_; refine AOps.addw rfl rfl rfl rfl rfl ?_; refine za ?_; refine zd ?_; refine zq ?_; refine nz ?_; refine AOps.fieldAddrN 54 1 4 rfl rfl rfl rfl ?_; refine AOps.fieldAddrN 49 0 0 rfl rfl rfl rfl ?_; refine zb ?_; refine zm ?_; (focus ((with_reducible apply AOps.index_map); (iterate 7 exact rfl); rotate_left; omega)); refine zr ?_; refine zs ?_; refine zm ?_; refine zy ?_; refine AOps.fieldAddrN 54 1 4 rfl rfl rfl rfl ?_; refine zy ?_; refine AOps.fieldAddrN 49 0 0 rfl rfl rfl rfl ?_; refine zy ?_; refine zb ?_; refine zy ?_; refine zm ?_; refine zy ?_; (focus ((with_reducible apply AOps.index_map); (iterate 7 exact rfl); rotate_left; omega)); refine zy ?_; refine zr ?_; refine zy ?_; refine AOps.gtr rfl rfl rfl rfl rfl ?_; refine zF ?_; refine zd ?_; refine zc ?_; refine zq ?_; refine nz ?_; (iterate 5 refine za ?_); refine zd ?_; refine AW.ret ?_; refine inBlockD_ret ?_; (iterate 2 refine thenD_ret ?_); refine inBlockD_ret ?_; refine thenD_ret ?_)
          (apply ends_ret; (exact Res.five (.tmp rfl rfl) (.tmp rfl rfl) (.tmp rfl rfl) (.tmp rfl rfl) (.tmp rfl rfl)); (refine Le.tupL ?_; refine LeL.cons ?_ ?_; exact Le.pv _; refine LeL.cons ?_ ?_; exact Le.pv _; refine LeL.cons ?_ ?_; exact Le.pv _; refine LeL.cons ?_ ?_; exact Le.pv _; refine LeL.cons ?_ ?_; refine Le.litB ?_; (rfl); exact LeL.nil))
    · by_cases hn5 : 5 < (at'.take k).sum
      · (refine zo ?_; refine zq ?_; refine zm ?_; refine AOps.fieldAddrN 54 1 4 rfl rfl rfl rfl ?_; refine AOps.fieldAddrN 49 0 0 rfl rfl rfl rfl ?_; refine zb ?_; refine zn ?_; refine zs ?_; refine zm ?_; (focus ((with_reducible apply AOps.guardT); (iterate 6 exact rfl); all_goals intro hc_)); refine zm ?_; refine zt ?_; refine zs ?_; refine zT ?_; refine zd ?_; refine zk ?_; refine AW.exit ?_; (iterate 2 refine thenD_exit ?_); refine inBlockD_exit ?_; refine thenD_n ?_; refine zo ?_; refine zq ?_; refine nz ?_; refine zm ?_; refine AOps.gtr rfl rfl rfl rfl rfl ?_; refine zm ?_; (iterate 6 refine AOps.guardFn rfl rfl rfl rfl rfl rfl (by with_reducible assumption) ?_); refine zT ?_; refine zd ?_; refine AW.cond_lt rfl rfl ?_; refine zq ?_; refine nz ?_; (iterate 5 refine za ?_); refine zd ?_; refine AW.ret ?_; refine thenD_ret ?_; (all_goals skip); rotate_left; refine AOps.guardTn rfl rfl rfl rfl rfl rfl (by with_reducible assumption) ?_; refine zF ?_; refine zd ?_; refine AW.cond_lf rfl rfl ?_; refine AW.exit ?_; (iterate 2 refine thenD_exit ?_); refine inBlockD_exit ?_; refine thenD_n ?_; refine zo ?_; refine zq ?_; refine nz ?_; refine zm ?_; refine AOps.gtr rfl rfl rfl rfl rfl ?_; refine zm ?_; (iterate 6 refine AOps.guardFn rfl rfl rfl rfl rfl rfl (by with_reducible assumption) ?_); refine zT ?_; refine zd ?_; refine AW.cond_lt rfl rfl ?_; refine zq ?_; refine nz ?_; (iterate 5 refine za ?_); refine zd ?_; refine AW.ret ?_; refine thenD_ret ?_; (all_goals skip); rotate_left)
        all_goals (apply ends_ret; (exact Res.five (.tmp rfl rfl) (.tmp rfl rfl) (.tmp rfl rfl) (.tmp rfl rfl) (.tmp rfl rfl)); (refine Le.tupL ?_; refine LeL.cons ?_ ?_; exact Le.pv _; refine LeL.cons ?_ ?_; exact Le.pv _; refine LeL.cons ?_ ?_; exact Le.pv _; refine LeL.cons ?_ ?_; exact Le.pv _; refine LeL.cons ?_ ?_; refine Le.litB ?_; (rfl); exact LeL.nil))
      · have hff : fits9 ⟨so, fs, pr, fa⟩ at' st = false := by
          cases hf : fits9 ⟨so, fs, pr, fa⟩ at' st with
          | false => rfl
          | true =>
            exfalso
            have h4 := (fits_more hf).1
            have e : at'.take k = at' := List.take_of_length_le (by omega)
            rw [e] at hx hn5
            exact h5 ⟨h4, hx, by omega, hf⟩
        rw [hff] at hfi
        (refine zo ?_; refine zq ?_; refine zm ?_; refine AOps.fieldAddrN 54 1 4 rfl rfl rfl rfl ?_; refine AOps.fieldAddrN 49 0 0 rfl rfl rfl rfl ?_; refine zb ?_; refine zn ?_; refine zs ?_; refine zm ?_; (focus ((with_reducible apply AOps.guardT); (iterate 6 exact rfl); all_goals intro hc_)); refine zm ?_; refine zt ?_; refine zs ?_; refine zT ?_; refine zd ?_; refine zk ?_; refine AW.exit ?_; (iterate 2 refine thenD_exit ?_); refine inBlockD_exit ?_; refine thenD_n ?_; refine zo ?_; refine zq ?_; refine nz ?_; refine zm ?_; refine AOps.gtr rfl rfl rfl rfl rfl ?_; refine zm ?_; refine zy ?_; refine AOps.fieldAddrN 54 0 0 rfl rfl rfl rfl ?_; refine zy ?_; (with_reducible apply AOps.load_bs); (iterate 3 exact rfl); (repeat' first | exact Sub.nil | apply Sub.take | apply Sub.skip); (iterate 3 exact rfl); refine zy ?_; refine AOps.fieldAddrN 54 1 4 rfl rfl rfl rfl ?_; refine zy ?_; (with_reducible apply AOps.load_bs); (iterate 3 exact rfl); (repeat' first | exact Sub.nil | apply Sub.take | apply Sub.skip); (iterate 3 exact rfl); refine zy ?_; refine zA (hfi) ?_; refine zy ?_; refine AOps.not rfl rfl rfl ?_; refine zF ?_; refine zd ?_; refine AW.cond_lt rfl rfl ?_; refine zq ?_; refine nz ?_; (iterate 5 refine za ?_); refine zd ?_; refine AW.ret ?_; refine thenD_ret ?_; (all_goals skip); rotate_left; refine AOps.guardTn rfl rfl rfl rfl rfl rfl (by with_reducible assumption) ?_; refine zF ?_; refine zd ?_; refine AW.cond_lf rfl rfl ?_; refine AW.exit ?_; (iterate 2 refine thenD_exit ?_); refine inBlockD_exit ?_; refine thenD_n ?_; refine zo ?_; refine zq ?_; refine nz ?_; refine zm ?_; refine AOps.gtr rfl rfl rfl rfl rfl ?_; refine zm ?_; refine zy ?_; refine AOps.fieldAddrN 54 0 0 rfl rfl rfl rfl ?_; refine zy ?_; (with_reducible apply AOps.load_bs); (iterate 3 exact rfl); (repeat' first | exact Sub.nil | apply Sub.take | apply Sub.skip); (iterate 3 exact rfl); refine zy ?_; refine AOps.fieldAddrN 54 1 4 rfl rfl rfl rfl ?_; refine zy ?_; (with_reducible apply AOps.load_bs); (iterate 3 exact rfl); (repeat' first | exact Sub.nil | apply Sub.take | apply Sub.skip); (iterate 3 exact rfl); refine zy ?_; refine zA (hfi) ?_; refine zy ?_; refine AOps.not rfl rfl rfl ?_; refine zF ?_; refine zd ?_; refine AW.cond_lt rfl rfl ?_; refine zq ?_; refine nz ?_; (iterate 5 refine za ?_); refine zd ?_; refine AW.ret ?_; refine thenD_ret ?_; (all_goals skip); rotate_left)
        all_goals (apply ends_ret; (exact Res.five (.tmp rfl rfl) (.tmp rfl rfl) (.tmp rfl rfl) (.tmp rfl rfl) (.tmp rfl rfl)); (refine Le.tupL ?_; refine LeL.cons ?_ ?_; exact Le.pv _; refine LeL.cons ?_ ?_; exact Le.pv _; refine LeL.cons ?_ ?_; exact Le.pv _; refine LeL.cons ?_ ?_; exact Le.pv _; refine LeL.cons ?_ ?_; refine Le.litB ?_; (rfl); exact LeL.nil))
end Go.Ab
/- Chapter 24: the law of breaking symmetries. -/
namespace Go.Ab
open Go Go.Proofs
open Nat (reduceAdd reduceSub)
set_option maxRecDepth 100000
set_option maxHeartbeats 16000000
theorem vars_len (o o' : Int) (st : Nat) (fr : List (Int × Int)) (vr : Int → Bool) : (varsM o st fr vr).length = (varsM o' st fr vr).length := by
  unfold varsM
  rw [List.length_append, List.length_append, selV_len, selV_len]
abbrev lf24 (s : SpecM) (m : Nat) (bs : List BndM) (p : List Int) : List Int := litV 0 p.length (arF s.fields) m (vrF s.fields) bs p
attribute [local irreducible] AW AOps thenD inBlockD AR iterEnds roundEndsN inlEnds noGotoD grpM varsM freeL brkM litV leadM evalG
end Go.Ab
/- Chapter 24: the law of leaders. -/
namespace Go.Ab
open Go Go.Proofs
open Nat (reduceAdd reduceSub)
set_option maxRecDepth 100000
set_option maxHeartbeats 16000000
def FndL (vals : List Bool) (L : List (List Int)) (i : Nat) (f : Bool) (y : List Bool) : Prop :=
  (f = false ∧ y = [] ∧ ∀ (j : Nat) (h : j < L.length), j < i → leadM (imgM vals L[j]) L = false) ∨ (f = true ∧ ∃ (j : Nat) (h : j < L.length), y = imgM vals L[j] ∧ leadM (imgM vals L[j]) L = true)
theorem fnd_end {n : Nat} {vals : List Bool} {L : List (List Int)} (h : GrpL n L) {f : Bool} {y : List Bool} (hf : FndL vals L L.length f y) : f = true ∧ ∃ (j : Nat) (h : j < L.length), y = imgM vals L[j] ∧ leadM (imgM vals L[j]) L = true := by
  rcases hf with ⟨_, _, h1⟩ | h1
  · obtain ⟨p, hp, h2⟩ := lead_some h vals
    obtain ⟨j, hj, rfl⟩ := List.getElem_of_mem hp
    rw [h1 j hj hj] at h2
    cases h2
  · exact h1
theorem fnd_skip {vals : List Bool} {L : List (List Int)} {i : Nat} {f : Bool} {y : List Bool} (hi : i < L.length) (hf : FndL vals L i f y) (hb : leadM (imgM vals L[i]) L = false) : FndL vals L (i + 1) f y := by
  rcases hf with ⟨h0, h1, h2⟩ | h1
  · refine .inl ⟨h0, h1, fun j hj hji => ?_⟩
    by_cases e : j = i
    · subst e; exact hb
    · exact h2 j hj (by omega)
  · exact .inr h1
attribute [local irreducible] AW AOps thenD inBlockD AR iterEnds roundEndsN inlEnds noGotoD grpM varsM freeL litV leadM imgM ngF ordM
theorem lawLead_fn (s : SpecM) (at' : List Int) (st : Int) (raw : List (List Int)) (P Q : Int) (vals : List Bool) (hraw : ∀ r ∈ raw, ∀ x ∈ r, 0 ≤ x ∧ x ≤ 255) (hP : 0 ≤ P ∧ P ≤ 65535) (hQ : 0 ≤ Q ∧ Q ≤ 65535) :
    Fn Try.prog 5 [caseA s at' st raw P Q, .pv (bools vals)] (litB true) := by
  have hm := made24_fn s at' st raw P Q hraw hP hQ
  rcases hm with hm | ⟨n, m, bs, p, q, hM⟩
  · obtain ⟨so, fs, pr, fa⟩ := s
    refine Fn.enter (n := 120) Try.func5 rfl rfl rfl rfl rfl (by decide) fun g hro_ hwt_ => ?_; (try refine nz ?_)
    (refine zq ?_; refine AOps.box rfl rfl rfl rfl ?_; refine nz ?_; refine za ?_; refine zd ?_; refine zq ?_; refine nz ?_; refine zA (head24_fn) ?_; refine za ?_; refine zd ?_; refine zq ?_; refine nz ?_; refine zL ?_; refine nz ?_; refine zA (hm) ?_; refine AOps.move_tup rfl rfl rfl ?_; (iterate 5 refine AOps.extract rfl rfl rfl rfl ?_); (iterate 5 refine za ?_); refine zd ?_; refine zo ?_; refine zq ?_; refine nz ?_; refine zm ?_; refine AOps.not rfl rfl rfl ?_; refine zm ?_; (iterate 3 refine AOps.guard_lf rfl rfl rfl rfl rfl rfl rfl ?_); refine AOps.pick_lt rfl rfl rfl rfl rfl rfl ?_; refine zd ?_; refine AW.cond_lt rfl rfl ?_; refine zq ?_; refine nz ?_; refine zm ?_; refine za ?_; refine zd ?_; refine AW.ret ?_; refine thenD_ret ?_)
    (apply ends_ret; (exact Res.one (.tmp rfl rfl)); (refine Le.litB ?_; (rfl)))
  obtain ⟨rfl, hok, hp, hq, hfew, hm⟩ := hM
  by_cases hv : 24 < ((grpM s at' n bs).length : Int)
  · generalize grpM s at' n bs = l at hm hv
    obtain ⟨so, fs, pr, fa⟩ := s
    refine Fn.enter (n := 120) Try.func5 rfl rfl rfl rfl rfl (by decide) fun g hro_ hwt_ => ?_; (try refine nz ?_)
    (refine zq ?_; refine AOps.box rfl rfl rfl rfl ?_; refine nz ?_; refine za ?_; refine zd ?_; refine zq ?_; refine nz ?_; refine zA (head24_fn) ?_; refine za ?_; refine zd ?_; refine zq ?_; refine nz ?_; refine zL ?_; refine nz ?_; refine zP (hm) ?_; refine AOps.move_tup rfl rfl rfl ?_; (iterate 5 refine AOps.extract rfl rfl rfl rfl ?_); (iterate 5 refine za ?_); refine zd ?_; refine zo ?_; refine zq ?_; refine nz ?_; refine zm ?_; refine AOps.not rfl rfl rfl ?_; refine zm ?_; refine zl ?_; refine zm ?_; refine zl ?_; refine zn ?_; refine zl ?_; refine AOps.gtr rfl rfl rfl rfl rfl ?_; refine AOps.pick_lf rfl rfl rfl rfl rfl rfl ?_; refine zd ?_; refine zc ?_; refine zq ?_; refine nz ?_; refine zm ?_; refine za ?_; refine zd ?_; refine AW.ret ?_; refine thenD_ret ?_)
    (apply ends_ret; (exact Res.one (.tmp rfl rfl)); (refine Le.litB ?_; (rfl)))
  have hgn := grp_ne hok
  have hgr := grp_lits (o := 0) (st := m) (vr := vrF s.fields) hok.n1 hok.bnd (l := grpM s at' n bs) (fun e => by rw [e] at hgn; exact absurd hgn (by simp)) (fun p => grp_mem)
  have hL : (grpM s at' n bs).map (litV 0 n (arF s.fields) m (vrF s.fields) bs) = (grpM s at' n bs).map (lf24 s m bs) := List.map_congr_left fun p hp => by
    unfold lf24
    rw [(grp_mem.1 hp).perm.len]
  rw [hL] at hgr
  have fL := fun p (hp : p ∈ grpM s at' n bs) => literals_fn s at' m bs p (hok.lit (grp_mem.1 hp))
  rw [vars_len 1 0] at hfew
  generalize (varsM 0 m (freeL 0 bs) (vrF s.fields)).length = nV at hfew hgr
  have fL' : ∀ p, p ∈ grpM s at' n bs → Fn Try.prog 20 [spc s, scp at' (m : Int), .pv (bnds bs), .pv (ints p)] (.pv (ints (lf24 s m bs p))) := fL
  clear fL hL
  generalize lf24 s m bs = lf at hgr fL'
  generalize grpM s at' n bs = l at hm hv hgn hgr fL' hp hq
  clear hp hq hok
  obtain ⟨so, fs, pr, fa⟩ := s
  refine Fn.enter (n := 120) Try.func5 rfl rfl rfl rfl rfl (by decide) fun g hro_ hwt_ => ?_; (try refine nz ?_)
  (refine zq ?_; refine AOps.box rfl rfl rfl rfl ?_; refine nz ?_; refine za ?_; refine zd ?_; refine zq ?_; refine nz ?_; refine zA (head24_fn) ?_; refine za ?_; refine zd ?_; refine zq ?_; refine nz ?_; refine zL ?_; refine nz ?_; refine zP (hm) ?_; refine AOps.move_tup rfl rfl rfl ?_; (iterate 5 refine AOps.extract rfl rfl rfl rfl ?_); (iterate 5 refine za ?_); refine zd ?_; refine zo ?_; refine zq ?_; refine nz ?_; refine zm ?_; refine AOps.not rfl rfl rfl ?_; refine zm ?_; refine zl ?_; refine zm ?_; refine zl ?_; refine zn ?_; refine zl ?_; refine AOps.gtr rfl rfl rfl rfl rfl ?_; refine AOps.pick_lf rfl rfl rfl rfl rfl rfl ?_; refine zd ?_; refine zk ?_; refine AW.skip ?_; refine thenD_n ?_; refine zq ?_; refine nz ?_; refine za ?_; refine zd ?_; refine zo ?_; refine zq ?_; refine nz ?_; refine za ?_; refine zd ?_; refine AW.block ?_)
  (refine nz ?_; apply AW.loopR [7, 6, 5, 4, 2, 1] [0] (fun k : Nat => ([(12, litI k), (11, .own 1 26 1 (((l.take k).map lf).map encLL))] : List (Nat × AV))) (fun k : Nat => ([(1, some .row)] : List (Nat × Option Ob))) (fun k : Nat => k ≤ l.length) (fun k : Nat => l.length - k) (0); (conv => lhs; simp only [Nf.lpR, Nf.all, Nat.reduceBEq, reduceAdd, reduceSub]); (all_goals skip))
  · exact Nat.zero_le _
  · exact weak rfl (by (first | (refine ⟨.eq rfl rfl, ?_⟩; refine ⟨.nilown _ _ _ rfl rfl, ?_⟩; (iterate 6 refine ⟨.eq rfl rfl, ?_⟩); exact trivial) | (refine ⟨.eq rfl rfl, ?_⟩; refine ⟨.eq rfl rfl, ?_⟩; refine ⟨.nilpv _, ?_⟩; refine ⟨.freeze rfl, ?_⟩; (iterate 4 refine ⟨.eq rfl rfl, ?_⟩); exact trivial) | (refine ⟨.eq rfl rfl, ?_⟩; (iterate 7 refine ⟨.eq rfl rfl, ?_⟩); exact trivial) | (refine ⟨.eq rfl rfl, ?_⟩; (iterate 6 refine ⟨.eq rfl rfl, ?_⟩); exact trivial))) (by (first | (refine ⟨.newrow rfl, ?_⟩; refine ⟨.box _ rfl ?_, ?_⟩; (iterate 9 refine ⟨.eq rfl rfl, ?_⟩); (iterate 2 exact trivial)) | (exact trivial))) rfl
  rintro k hk
  have hlk : ((l.take k).map lf).length ≤ 24 := by rw [List.length_map, List.length_take]; omega
  by_cases hlt : k < l.length
  · have f1 := fL' _ (List.getElem_mem hlt)
    have hs := take_succ_get hlt
    (refine zo ?_; refine zq ?_; (iterate 2 refine zm ?_); refine zn ?_; refine zs ?_; refine zd ?_; refine zc ?_; refine AW.skip ?_; refine thenD_n ?_; refine zo ?_; refine AW.block ?_; refine AW.regionM [0, 1, 2, 3, 4, 5, 6, 7, 8, 9] [] rfl (by assumption) (by kernel_rfl) (by kernel_rfl) rfl ?_; show AOps .held _ _ _ [_, _, _, _, _, _, _, _, _, _] _ _; refine AOps.move_own rfl rfl rfl ?_; refine AOps.fieldAddrN 54 0 0 rfl rfl rfl rfl ?_; (with_reducible apply AOps.load_bs); (iterate 3 exact rfl); (repeat' first | exact Sub.nil | apply Sub.take | apply Sub.skip); (iterate 3 exact rfl); refine AOps.fieldAddrN 54 1 4 rfl rfl rfl rfl ?_; (with_reducible apply AOps.load_bs); (iterate 3 exact rfl); (repeat' first | exact Sub.nil | apply Sub.take | apply Sub.skip); (iterate 3 exact rfl); (iterate 3 refine zm ?_); (focus ((with_reducible apply AOps.index_map); (iterate 7 exact rfl); rotate_left; omega)); refine zr ?_; refine AOps.nil ?_; refine onlyN_n ?_; intro k_ hk_; refine nz ?_; refine AR.step1M (i := 10) rfl (by kernel_rfl) rfl ?_; intro g_ hgro_ hw_; refine zP (f1) ?_; refine AOps.nil ?_; refine onlyN_n ?_; refine AR.step1M (i := 11) rfl (by kernel_rfl) rfl ?_; intro g_ hgro_ hw_; refine AOps.bs1 rfl rfl rfl rfl rfl rfl rfl rfl ?_; refine nz ?_; refine AOps.nil ?_; refine onlyN_n ?_; refine AR.step1M (i := 12) rfl (by kernel_rfl) rfl ?_; intro g_ hgro_ hw_; (with_reducible apply AOps.appendS); exact rfl; (first | exact .pv rfl | exact .own rfl | exact .nil rfl); (iterate 9 exact rfl); (first | omega | (simp only [List.length_map, List.length_append, List.length_cons, List.length_nil, List.length_drop, List.length_take, List.length_set, chunk_len]; omega)); refine nz ?_; refine AOps.nil ?_; refine onlyN_n ?_; refine AR.readsM [13] (by kernel_rfl) (by kernel_rfl) (by kernel_rfl) (by kernel_rfl) ?_; intro g_ hgro_; show AOps .held _ _ _ [_] _ _; refine AOps.assign_own rfl rfl rfl ?_; refine AOps.nil ?_; refine onlyN_n ?_; intro k_ hk_; refine nz ?_; refine AR.doneM (by assumption) (by kernel_rfl) ?_; refine inBlockD_n ?_; refine thenD_n ?_; refine AW.region ?_; refine zm ?_; refine zj ?_; refine za ?_; refine zd ?_)
    exact ⟨k + 1, by omega, by omega, weak rfl (by (refine ⟨.intE (by first | with_reducible rfl | (first | rfl | (rw [hs, List.map_append, List.map_append]; rfl))), ?_⟩; refine ⟨.ownE (by first | with_reducible rfl | (first | rfl | (rw [hs, List.map_append, List.map_append]; rfl))) rfl, ?_⟩; refine ⟨.pvE (by first | with_reducible rfl | (first | rfl | (rw [hs, List.map_append, List.map_append]; rfl))), ?_⟩; refine ⟨.pvE (by first | with_reducible rfl | (first | rfl | (rw [hs, List.map_append, List.map_append]; rfl))), ?_⟩; refine ⟨.boolE (by first | with_reducible rfl | (first | rfl | (rw [hs, List.map_append, List.map_append]; rfl))), ?_⟩; refine ⟨.boolE (by first | with_reducible rfl | (first | rfl | (rw [hs, List.map_append, List.map_append]; rfl))), ?_⟩; refine ⟨.eq rfl rfl, ?_⟩; refine ⟨.pvE (by first | with_reducible rfl | (first | rfl | (rw [hs, List.map_append, List.map_append]; rfl))), ?_⟩; exact trivial)) (by (refine ⟨.row rfl, ?_⟩; refine ⟨.box _ rfl ?_, ?_⟩; refine ⟨.pvE (by first | with_reducible rfl | (first | rfl | (rw [hs, List.map_append, List.map_append]; rfl))), ?_⟩; refine ⟨.pvE (by first | with_reducible rfl | (first | rfl | (rw [hs, List.map_append, List.map_append]; rfl))), ?_⟩; (iterate 2 refine ⟨.eq rfl rfl, ?_⟩); refine ⟨.pvE (by first | with_reducible rfl | (first | rfl | (rw [hs, List.map_append, List.map_append]; rfl))), ?_⟩; refine ⟨.intE (by first | with_reducible rfl | (first | rfl | (rw [hs, List.map_append, List.map_append]; rfl))), ?_⟩; refine ⟨.pvE (by first | with_reducible rfl | (first | rfl | (rw [hs, List.map_append, List.map_append]; rfl))), ?_⟩; refine ⟨.intE (by first | with_reducible rfl | (first | rfl | (rw [hs, List.map_append, List.map_append]; rfl))), ?_⟩; refine ⟨.intE (by first | with_reducible rfl | (first | rfl | (rw [hs, List.map_append, List.map_append]; rfl))), ?_⟩; (iterate 2 exact trivial))) rfl⟩
  rw [take_all (l := l) (by omega)]
  have hLl : (l.map lf).length = l.length := List.length_map _
  generalize hLe : l.map lf = L at hgr hLl ⊢
  have hL0 : 0 < L.length := by omega
  have hn0 : L[0].length = nV := (hgr.perm _ (List.getElem_mem hL0)).len
  rw [← hn0] at hgr hfew
  have hle : ∀ (i : Nat) (h : i < L.length), L[i].length = L[0].length := fun i h => (hgr.perm _ (List.getElem_mem h)).len
  have hof := ord24_fnO L[0].length (by omega)
  have hldf := fun y => leader_fn y L (fun p hp => ⟨(hgr.perm p hp).ok, by rw [(hgr.perm p hp).len]; omega⟩) (by omega)
  have himf := fun (i : Nat) (h : i < L.length) => img24_fn vals L[i] (hgr.perm _ (List.getElem_mem h)).ok (by rw [hle i h]; omega)
  have hngf := fun x y => ng24_fn x y (ordM L[0].length) (fun w hw => by have := ord_mem.1 hw; omega) (by rw [ord_len]; omega)
  have hli := fun (i : Nat) (h : i < L.length) => lead_iff hgr vals (List.getElem_mem h)
  (refine zo ?_; refine zq ?_; (iterate 2 refine zm ?_); refine zn ?_; refine zs ?_; refine zd ?_; refine zk ?_; refine AW.exit ?_; (iterate 2 refine thenD_exit ?_); refine inBlockD_exit ?_; refine thenD_n ?_; refine zq ?_; refine nz ?_; refine AOps.move_own rfl rfl rfl ?_; refine AOps.index_own_mapN rfl rfl rfl rfl rfl rfl rfl (by omega) ?_; (focus ((with_reducible apply AOps.load_o1_mapI); (iterate 4 exact rfl); exact (fun h_ => by cases h_); rotate_left; (first | omega | exact Nat.zero_lt_one | exact (by simp)))); refine zn ?_; refine za ?_; refine zd ?_; refine zq ?_; refine nz ?_; refine za ?_; refine zd ?_; refine zq ?_; refine nz ?_; refine za ?_; refine zd ?_; refine zo ?_; refine zq ?_; refine nz ?_; refine za ?_; refine zd ?_; refine AW.block ?_)
  (refine nz ?_; apply AW.loopR [13, 7, 5, 1] [] (fun s : Nat × Bool × List Bool => ([(16, litI s.1), (15, litB s.2.1), (14, .pv (bools s.2.2)), (11, .pv (intss L))] : List (Nat × AV))) (fun s : Nat × Bool × List Bool => ([] : List (Nat × Option Ob))) (fun s : Nat × Bool × List Bool => s.1 ≤ L.length ∧ FndL vals L s.1 s.2.1 s.2.2) (fun s : Nat × Bool × List Bool => L.length - s.1) ((0, false, List.nil)); (conv => lhs; simp only [Nf.lpR, Nf.all, Nat.reduceBEq, reduceAdd, reduceSub]); (all_goals skip))
  · exact ⟨Nat.zero_le _, .inl ⟨rfl, rfl, fun j h hj => by simp only at hj; omega⟩⟩
  · exact weak rfl (by (first | (refine ⟨.eq rfl rfl, ?_⟩; refine ⟨.nilown _ _ _ rfl rfl, ?_⟩; (iterate 6 refine ⟨.eq rfl rfl, ?_⟩); exact trivial) | (refine ⟨.eq rfl rfl, ?_⟩; refine ⟨.eq rfl rfl, ?_⟩; refine ⟨.nilpv _, ?_⟩; refine ⟨.freeze rfl, ?_⟩; (iterate 4 refine ⟨.eq rfl rfl, ?_⟩); exact trivial) | (refine ⟨.eq rfl rfl, ?_⟩; (iterate 7 refine ⟨.eq rfl rfl, ?_⟩); exact trivial) | (refine ⟨.eq rfl rfl, ?_⟩; (iterate 6 refine ⟨.eq rfl rfl, ?_⟩); exact trivial))) (by (first | (refine ⟨.newrow rfl, ?_⟩; refine ⟨.box _ rfl ?_, ?_⟩; (iterate 9 refine ⟨.eq rfl rfl, ?_⟩); (iterate 2 exact trivial)) | (exact trivial))) rfl
  rintro ⟨i, f, y⟩ ⟨hi, hF⟩
  simp only at hi hF ⊢
  by_cases hlt2 : i < L.length
  · have hy := hle i hlt2
    have i1 := himf i hlt2
    have d1 := hldf (imgM vals L[i])
    cases hb : leadM (imgM vals L[i]) L with
    | false =>
      rw [hb] at d1
      have hF' := fnd_skip hlt2 hF hb
      clear hb
      generalize imgM vals L[i] = yi at i1 d1
      cases f with
      | true =>
        (refine zo ?_; refine zq ?_; (iterate 2 refine zm ?_); refine zn ?_; refine zs ?_; refine zd ?_; refine zc ?_; refine AW.skip ?_; refine thenD_n ?_; refine zo ?_; refine AW.block ?_; refine zo ?_; refine zq ?_; refine nz ?_; (iterate 2 refine zm ?_); (focus ((with_reducible apply AOps.index_map); (iterate 7 exact rfl); rotate_left; omega)); refine zr ?_; refine zn ?_; refine zm ?_; refine AOps.neq rfl rfl rfl rfl rfl ?_; refine zd ?_; refine zk ?_; refine AW.skip ?_; refine thenD_n ?_; refine zq ?_; refine nz ?_; (iterate 3 refine zm ?_); (focus ((with_reducible apply AOps.index_map); (iterate 7 exact rfl); rotate_left; omega)); refine zr ?_; refine zP (i1) ?_; refine za ?_; refine zd ?_; refine zo ?_; refine zq ?_; refine nz ?_; (iterate 2 refine zm ?_); refine zA (d1) ?_; refine AOps.not rfl rfl rfl ?_; refine zd ?_; refine AW.cond_lt rfl rfl ?_; refine AW.exit ?_; refine thenD_exit ?_; refine inBlockD_exit ?_; refine thenD_n ?_; refine AW.region ?_; refine nz ?_; refine zm ?_; refine zj ?_; refine za ?_; refine zd ?_)
        exact ⟨(i + 1, true, y), ⟨by show i + 1 ≤ _; omega, hF'⟩, by show L.length - (i + 1) < L.length - i; omega, weak rfl (by (first | (refine ⟨.eq rfl rfl, ?_⟩; refine ⟨.nilown _ _ _ rfl rfl, ?_⟩; (iterate 6 refine ⟨.eq rfl rfl, ?_⟩); exact trivial) | (refine ⟨.eq rfl rfl, ?_⟩; refine ⟨.eq rfl rfl, ?_⟩; refine ⟨.nilpv _, ?_⟩; refine ⟨.freeze rfl, ?_⟩; (iterate 4 refine ⟨.eq rfl rfl, ?_⟩); exact trivial) | (refine ⟨.eq rfl rfl, ?_⟩; (iterate 7 refine ⟨.eq rfl rfl, ?_⟩); exact trivial) | (refine ⟨.eq rfl rfl, ?_⟩; (iterate 6 refine ⟨.eq rfl rfl, ?_⟩); exact trivial))) (by (first | (refine ⟨.newrow rfl, ?_⟩; refine ⟨.box _ rfl ?_, ?_⟩; (iterate 9 refine ⟨.eq rfl rfl, ?_⟩); (iterate 2 exact trivial)) | (exact trivial))) rfl⟩
      | false =>
        (refine zo ?_; refine zq ?_; (iterate 2 refine zm ?_); refine zn ?_; refine zs ?_; refine zd ?_; refine zc ?_; refine AW.skip ?_; refine thenD_n ?_; refine zo ?_; refine AW.block ?_; refine zo ?_; refine zq ?_; refine nz ?_; (iterate 2 refine zm ?_); (focus ((with_reducible apply AOps.index_map); (iterate 7 exact rfl); rotate_left; omega)); refine zr ?_; refine zn ?_; refine zm ?_; refine AOps.neq rfl rfl rfl rfl rfl ?_; refine zd ?_; refine zk ?_; refine AW.skip ?_; refine thenD_n ?_; refine zq ?_; refine nz ?_; (iterate 3 refine zm ?_); (focus ((with_reducible apply AOps.index_map); (iterate 7 exact rfl); rotate_left; omega)); refine zr ?_; refine zP (i1) ?_; refine za ?_; refine zd ?_; refine zo ?_; refine zq ?_; refine nz ?_; (iterate 2 refine zm ?_); refine zA (d1) ?_; refine AOps.not rfl rfl rfl ?_; refine zd ?_; refine AW.cond_lt rfl rfl ?_; refine AW.exit ?_; refine thenD_exit ?_; refine inBlockD_exit ?_; refine thenD_n ?_; refine AW.region ?_; refine nz ?_; refine zm ?_; refine zj ?_; refine za ?_; refine zd ?_)
        exact ⟨(i + 1, false, y), ⟨by show i + 1 ≤ _; omega, hF'⟩, by show L.length - (i + 1) < L.length - i; omega, weak rfl (by (first | (refine ⟨.eq rfl rfl, ?_⟩; refine ⟨.nilown _ _ _ rfl rfl, ?_⟩; (iterate 6 refine ⟨.eq rfl rfl, ?_⟩); exact trivial) | (refine ⟨.eq rfl rfl, ?_⟩; refine ⟨.eq rfl rfl, ?_⟩; refine ⟨.nilpv _, ?_⟩; refine ⟨.freeze rfl, ?_⟩; (iterate 4 refine ⟨.eq rfl rfl, ?_⟩); exact trivial) | (refine ⟨.eq rfl rfl, ?_⟩; (iterate 7 refine ⟨.eq rfl rfl, ?_⟩); exact trivial) | (refine ⟨.eq rfl rfl, ?_⟩; (iterate 6 refine ⟨.eq rfl rfl, ?_⟩); exact trivial))) (by (first | (refine ⟨.newrow rfl, ?_⟩; refine ⟨.box _ rfl ?_, ?_⟩; (iterate 9 refine ⟨.eq rfl rfl, ?_⟩); (iterate 2 exact trivial)) | (exact trivial))) rfl⟩
    | true =>
      rw [hb] at d1
      have hF' : FndL vals L (i + 1) true (imgM vals L[i]) := .inr ⟨rfl, i, hlt2, rfl, hb⟩
      rcases hF with ⟨rfl, rfl, _⟩ | ⟨rfl, j, hj, rfl, hbj⟩
      · clear hb
        generalize imgM vals L[i] = yi at i1 d1 hF'
        (refine zo ?_; refine zq ?_; (iterate 2 refine zm ?_); refine zn ?_; refine zs ?_; refine zd ?_; refine zc ?_; refine AW.skip ?_; refine thenD_n ?_; refine zo ?_; refine AW.block ?_; refine zo ?_; refine zq ?_; refine nz ?_; (iterate 2 refine zm ?_); (focus ((with_reducible apply AOps.index_map); (iterate 7 exact rfl); rotate_left; omega)); refine zr ?_; refine zn ?_; refine zm ?_; refine AOps.neq rfl rfl rfl rfl rfl ?_; refine zd ?_; refine zk ?_; refine AW.skip ?_; refine thenD_n ?_; refine zq ?_; refine nz ?_; (iterate 3 refine zm ?_); (focus ((with_reducible apply AOps.index_map); (iterate 7 exact rfl); rotate_left; omega)); refine zr ?_; refine zP (i1) ?_; refine za ?_; refine zd ?_; refine zo ?_; refine zq ?_; refine nz ?_; (iterate 2 refine zm ?_); refine zA (d1) ?_; refine AOps.not rfl rfl rfl ?_; refine zd ?_; refine AW.cond_lf rfl rfl ?_; refine AW.skip ?_; refine thenD_n ?_; refine zo ?_; refine zq ?_; refine nz ?_; (iterate 2 refine zm ?_); (iterate 6 refine AOps.guard_lf rfl rfl rfl rfl rfl rfl rfl ?_); (iterate 5 refine AOps.guard_u rfl rfl rfl rfl rfl rfl ?_); (iterate 2 refine AOps.guard_lf rfl rfl rfl rfl rfl rfl rfl ?_); refine AOps.pick_lf rfl rfl rfl rfl rfl rfl ?_; refine zd ?_; refine AW.cond_lf rfl rfl ?_; refine AW.skip ?_; refine thenD_n ?_; refine zq ?_; refine nz ?_; refine zm ?_; refine za ?_; refine zd ?_; refine AW.region ?_; refine nz ?_; refine za ?_; refine AOps.nil ?_; refine inBlockD_n ?_; refine thenD_n ?_; refine AW.region ?_; refine nz ?_; refine zm ?_; refine zj ?_; refine za ?_; refine zd ?_)
        exact ⟨(i + 1, true, yi), ⟨by show i + 1 ≤ _; omega, hF'⟩, by show L.length - (i + 1) < L.length - i; omega, weak rfl (by (first | (refine ⟨.eq rfl rfl, ?_⟩; refine ⟨.nilown _ _ _ rfl rfl, ?_⟩; (iterate 6 refine ⟨.eq rfl rfl, ?_⟩); exact trivial) | (refine ⟨.eq rfl rfl, ?_⟩; refine ⟨.eq rfl rfl, ?_⟩; refine ⟨.nilpv _, ?_⟩; refine ⟨.freeze rfl, ?_⟩; (iterate 4 refine ⟨.eq rfl rfl, ?_⟩); exact trivial) | (refine ⟨.eq rfl rfl, ?_⟩; (iterate 7 refine ⟨.eq rfl rfl, ?_⟩); exact trivial) | (refine ⟨.eq rfl rfl, ?_⟩; (iterate 6 refine ⟨.eq rfl rfl, ?_⟩); exact trivial))) (by (first | (refine ⟨.newrow rfl, ?_⟩; refine ⟨.box _ rfl ?_, ?_⟩; (iterate 9 refine ⟨.eq rfl rfl, ?_⟩); (iterate 2 exact trivial)) | (exact trivial))) rfl⟩
      · have g1 := hngf (imgM vals L[i]) (imgM vals L[j])
        rw [(hli i hlt2).1 hb _ (List.getElem_mem hj)] at g1
        have g2 := hngf (imgM vals L[j]) (imgM vals L[i])
        rw [(hli j hj).1 hbj _ (List.getElem_mem hlt2)] at g2
        clear hb hbj
        generalize imgM vals L[i] = yi at i1 d1 hF' g1 g2
        generalize imgM vals L[j] = yj at g1 g2 ⊢
        (refine zo ?_; refine zq ?_; (iterate 2 refine zm ?_); refine zn ?_; refine zs ?_; refine zd ?_; refine zc ?_; refine AW.skip ?_; refine thenD_n ?_; refine zo ?_; refine AW.block ?_; refine zo ?_; refine zq ?_; refine nz ?_; (iterate 2 refine zm ?_); (focus ((with_reducible apply AOps.index_map); (iterate 7 exact rfl); rotate_left; omega)); refine zr ?_; refine zn ?_; refine zm ?_; refine AOps.neq rfl rfl rfl rfl rfl ?_; refine zd ?_; refine zk ?_; refine AW.skip ?_; refine thenD_n ?_; refine zq ?_; refine nz ?_; (iterate 3 refine zm ?_); (focus ((with_reducible apply AOps.index_map); (iterate 7 exact rfl); rotate_left; omega)); refine zr ?_; refine zP (i1) ?_; refine za ?_; refine zd ?_; refine zo ?_; refine zq ?_; refine nz ?_; (iterate 2 refine zm ?_); refine zA (d1) ?_; refine AOps.not rfl rfl rfl ?_; refine zd ?_; refine AW.cond_lf rfl rfl ?_; refine AW.skip ?_; refine thenD_n ?_; refine zo ?_; refine zq ?_; refine nz ?_; (iterate 2 refine zm ?_); refine zl ?_; refine zm ?_; refine zl ?_; refine zm ?_; refine zl ?_; refine zm ?_; refine zl ?_; (with_reducible apply AOps.calloD (hof)); exact lits_map (fun _ => ⟨_, rfl⟩) _; (repeat (first | exact .nil | (refine .cons rfl ?_ ?_; (first | exact .pv _ | exact .own _ _ _ _ rfl | exact .nil _ | exact .any _ | exact .rptr _ | (refine .aggL ?_; repeat (first | exact .nil | (refine .cons ?_ ?_; (first | exact .pv _ | exact .own _ _ _ _ rfl | exact .nil _)))))))); exact rfl; refine nz ?_; refine zl ?_; refine zA (g1) ?_; refine zl ?_; refine zm ?_; refine zl ?_; refine zm ?_; refine zl ?_; refine zm ?_; refine zl ?_; refine zm ?_; refine zl ?_; (with_reducible apply AOps.calloD (hof)); exact lits_map (fun _ => ⟨_, rfl⟩) _; (repeat (first | exact .nil | (refine .cons rfl ?_ ?_; (first | exact .pv _ | exact .own _ _ _ _ rfl | exact .nil _ | exact .any _ | exact .rptr _ | (refine .aggL ?_; repeat (first | exact .nil | (refine .cons ?_ ?_; (first | exact .pv _ | exact .own _ _ _ _ rfl | exact .nil _)))))))); exact rfl; refine nz ?_; refine zl ?_; refine zA (g2) ?_; refine zl ?_; refine AOps.pick_lt rfl rfl rfl rfl rfl rfl ?_; refine zl ?_; refine AOps.not rfl rfl rfl ?_; refine AOps.pick_lt rfl rfl rfl rfl rfl rfl ?_; refine zd ?_; refine AW.cond_lf rfl rfl ?_; refine AW.skip ?_; refine thenD_n ?_; refine zq ?_; refine nz ?_; refine zm ?_; refine za ?_; refine zd ?_; refine AW.region ?_; refine nz ?_; refine za ?_; refine AOps.nil ?_; refine inBlockD_n ?_; refine thenD_n ?_; refine AW.region ?_; refine nz ?_; refine zm ?_; refine zj ?_; refine za ?_; refine zd ?_)
        exact ⟨(i + 1, true, yi), ⟨by show i + 1 ≤ _; omega, hF'⟩, by show L.length - (i + 1) < L.length - i; omega, weak rfl (by (first | (refine ⟨.eq rfl rfl, ?_⟩; refine ⟨.nilown _ _ _ rfl rfl, ?_⟩; (iterate 6 refine ⟨.eq rfl rfl, ?_⟩); exact trivial) | (refine ⟨.eq rfl rfl, ?_⟩; refine ⟨.eq rfl rfl, ?_⟩; refine ⟨.nilpv _, ?_⟩; refine ⟨.freeze rfl, ?_⟩; (iterate 4 refine ⟨.eq rfl rfl, ?_⟩); exact trivial) | (refine ⟨.eq rfl rfl, ?_⟩; (iterate 7 refine ⟨.eq rfl rfl, ?_⟩); exact trivial) | (refine ⟨.eq rfl rfl, ?_⟩; (iterate 6 refine ⟨.eq rfl rfl, ?_⟩); exact trivial))) (by (first | (refine ⟨.newrow rfl, ?_⟩; refine ⟨.box _ rfl ?_, ?_⟩; (iterate 9 refine ⟨.eq rfl rfl, ?_⟩); (iterate 2 exact trivial)) | (exact trivial))) rfl⟩
  · obtain rfl : i = L.length := by omega
    obtain ⟨rfl, j, hj, rfl, hbj⟩ := fnd_end hgr hF
    (refine zo ?_; refine zq ?_; (iterate 2 refine zm ?_); refine zn ?_; refine zs ?_; refine zd ?_; refine zk ?_; refine AW.exit ?_; (iterate 2 refine thenD_exit ?_); refine inBlockD_exit ?_; refine thenD_n ?_; refine zo ?_; refine zq ?_; refine nz ?_; refine za ?_; refine zd ?_; refine AW.block ?_)
    (refine nz ?_; apply AW.loopR [15, 14, 11, 13, 5, 1] [] (fun k : Nat => ([(18, litI k)] : List (Nat × AV))) (fun k : Nat => ([] : List (Nat × Option Ob))) (fun k : Nat => k ≤ L.length) (fun k : Nat => L.length - k) (0); (conv => lhs; simp only [Nf.lpR, Nf.all, Nat.reduceBEq, reduceAdd, reduceSub]); (all_goals skip))
    · exact Nat.zero_le _
    · exact weak rfl (by (first | (refine ⟨.eq rfl rfl, ?_⟩; refine ⟨.nilown _ _ _ rfl rfl, ?_⟩; (iterate 6 refine ⟨.eq rfl rfl, ?_⟩); exact trivial) | (refine ⟨.eq rfl rfl, ?_⟩; refine ⟨.eq rfl rfl, ?_⟩; refine ⟨.nilpv _, ?_⟩; refine ⟨.freeze rfl, ?_⟩; (iterate 4 refine ⟨.eq rfl rfl, ?_⟩); exact trivial) | (refine ⟨.eq rfl rfl, ?_⟩; (iterate 7 refine ⟨.eq rfl rfl, ?_⟩); exact trivial) | (refine ⟨.eq rfl rfl, ?_⟩; (iterate 6 refine ⟨.eq rfl rfl, ?_⟩); exact trivial))) (by (first | (refine ⟨.newrow rfl, ?_⟩; refine ⟨.box _ rfl ?_, ?_⟩; (iterate 9 refine ⟨.eq rfl rfl, ?_⟩); (iterate 2 exact trivial)) | (exact trivial))) rfl
    rintro k hk
    by_cases hlt3 : k < L.length
    · have i1 := himf k hlt3
      have g1 := hngf (imgM vals L[j]) (imgM vals L[k])
      rw [(hli j hj).1 hbj _ (List.getElem_mem hlt3)] at g1
      generalize imgM vals L[k] = yk at i1 g1
      (refine zo ?_; refine zq ?_; (iterate 2 refine zm ?_); refine zn ?_; refine zs ?_; refine zd ?_; refine zc ?_; refine AW.skip ?_; refine thenD_n ?_; refine zo ?_; refine AW.block ?_; refine zq ?_; refine nz ?_; (iterate 4 refine zm ?_); (focus ((with_reducible apply AOps.index_map); (iterate 7 exact rfl); rotate_left; omega)); refine zr ?_; refine zP (i1) ?_; refine zm ?_; (with_reducible apply AOps.calloD (hof)); exact lits_map (fun _ => ⟨_, rfl⟩) _; (repeat (first | exact .nil | (refine .cons rfl ?_ ?_; (first | exact .pv _ | exact .own _ _ _ _ rfl | exact .nil _ | exact .any _ | exact .rptr _ | (refine .aggL ?_; repeat (first | exact .nil | (refine .cons ?_ ?_; (first | exact .pv _ | exact .own _ _ _ _ rfl | exact .nil _)))))))); exact rfl; refine nz ?_; refine zA (g1) ?_; refine AOps.not rfl rfl rfl ?_; refine zd ?_; refine AW.cond_lf rfl rfl ?_; refine AW.skip ?_; refine inBlockD_n ?_; refine thenD_n ?_; refine AW.region ?_; refine nz ?_; refine zm ?_; refine zj ?_; refine za ?_; refine zd ?_)
      exact ⟨k + 1, by omega, by omega, weak rfl (by (first | (refine ⟨.eq rfl rfl, ?_⟩; refine ⟨.nilown _ _ _ rfl rfl, ?_⟩; (iterate 6 refine ⟨.eq rfl rfl, ?_⟩); exact trivial) | (refine ⟨.eq rfl rfl, ?_⟩; refine ⟨.eq rfl rfl, ?_⟩; refine ⟨.nilpv _, ?_⟩; refine ⟨.freeze rfl, ?_⟩; (iterate 4 refine ⟨.eq rfl rfl, ?_⟩); exact trivial) | (refine ⟨.eq rfl rfl, ?_⟩; (iterate 7 refine ⟨.eq rfl rfl, ?_⟩); exact trivial) | (refine ⟨.eq rfl rfl, ?_⟩; (iterate 6 refine ⟨.eq rfl rfl, ?_⟩); exact trivial))) (by (first | (refine ⟨.newrow rfl, ?_⟩; refine ⟨.box _ rfl ?_, ?_⟩; (iterate 9 refine ⟨.eq rfl rfl, ?_⟩); (iterate 2 exact trivial)) | (exact trivial))) rfl⟩
    · (refine zo ?_; refine zq ?_; (iterate 2 refine zm ?_); refine zn ?_; refine zs ?_; refine zd ?_; refine zk ?_; refine AW.exit ?_; (iterate 2 refine thenD_exit ?_); refine inBlockD_exit ?_; refine thenD_n ?_; refine zq ?_; refine nz ?_; (iterate 2 refine zm ?_); refine zl ?_; refine zm ?_; refine AOps.pick_lt rfl rfl rfl rfl rfl rfl ?_; refine za ?_; refine zd ?_; refine AW.ret ?_)
      (apply ends_ret; (exact Res.one (.tmp rfl rfl)); (refine Le.litB ?_; (rfl)))
end Go.Ab
namespace Go.Proofs.Ytcklfjkaadfjjaa.Law3
open Go Go.Ab Go.ChangeShapes Go.WideShapes Go.ChangeAt Go.RowKit
set_option linter.unusedVariables false
theorem own : ownKnob Try.prog.godebug = none := by kernel_rfl
theorem laidOut : laidOutB Try.prog = true := by kernel_rfl
theorem rdInts : Rd Try.prog 26 (fun l : List Int => [ints l]) (fun _ => True) :=
  Rd.map (Rd.slice (e := 3) (k := 1) (by' := 8) Try.underlying26 (by kernel_rfl) (by decide) (by kernel_rfl) (by decide) (fun _ => rfl) (Rd.int Try.underlying3)) id (fun _ => rfl) (fun _ _ => trivial)
theorem rdSort : Rd Try.prog 69 encSo (fun _ => True) :=
  Rd.map (Rd.struct (n := 2) Try.underlying69 (by kernel_rfl) (RdF.cons (k := 1) (n := 1) rfl (by kernel_rfl) (Rd.string Try.underlying9) (RdF.cons (k := 1) (n := 0) rfl (by kernel_rfl) (Rd.bool Try.underlying4) RdF.nil))) (fun p => ((p.1, p.2.1) : SortM)) (fun p => rfl) (fun _ _ => trivial)
theorem rdField : Rd Try.prog 71 encF (fun _ => True) :=
  Rd.map (Rd.struct (n := 3) Try.underlying71 (by kernel_rfl) (RdF.cons (k := 1) (n := 2) rfl (by kernel_rfl) (Rd.string Try.underlying9) (RdF.cons (k := 1) (n := 1) rfl (by kernel_rfl) rdInts (RdF.cons (k := 1) (n := 0) rfl (by kernel_rfl) (Rd.bool Try.underlying4) RdF.nil)))) (fun p => (⟨p.1, p.2.1, p.2.2.1⟩ : FieldM)) (fun p => rfl) (fun _ _ => trivial)
def encS (s : SpecM) : List PV := [.slice 2 (s.sorts.map encSo), .slice 3 (s.fields.map encF), .lit (.slice s.preds.a s.preds.l s.preds.c), .lit (.slice s.facts.a s.facts.l s.facts.c)]
theorem rdSpec : Rd Try.prog 47 encS (fun _ => True) :=
  Rd.map (Rd.struct (n := 4) Try.underlying47 (by kernel_rfl) (RdF.cons (k := 1) (n := 3) rfl (by kernel_rfl) (Rd.slice (e := 69) (k := 2) (by' := 24) Try.underlying42 (by kernel_rfl) (by decide) (by kernel_rfl) (by decide) (fun _ => rfl) rdSort) (RdF.cons (k := 1) (n := 2) rfl (by kernel_rfl) (Rd.slice (e := 71) (k := 3) (by' := 48) Try.underlying43 (by kernel_rfl) (by decide) (by kernel_rfl) (by decide) (fun _ => rfl) rdField) (RdF.cons (k := 1) (n := 1) rfl (by kernel_rfl) (Rd.raw Try.underlying44) (RdF.cons (k := 1) (n := 0) rfl (by kernel_rfl) (Rd.raw Try.underlying45) RdF.nil)))))
    (fun p => (⟨p.1, p.2.1, ⟨p.2.2.1.1, p.2.2.1.2.1, p.2.2.1.2.2⟩, ⟨p.2.2.2.1.1, p.2.2.2.1.2.1, p.2.2.2.1.2.2⟩⟩ : SpecM)) (fun p => rfl) (fun _ _ => trivial)
theorem rdScope : Rd Try.prog 49 (fun p : List Int × Int => [ints p.1, .lit (.int .i64 p.2)]) (fun _ => True) :=
  Rd.map (Rd.struct (n := 2) Try.underlying49 (by kernel_rfl) (RdF.cons (k := 1) (n := 1) rfl (by kernel_rfl) rdInts (RdF.cons (k := 1) (n := 0) rfl (by kernel_rfl) (Rd.int Try.underlying3) RdF.nil))) (fun p => (p.1, p.2.1)) (fun p => rfl) (fun _ _ => trivial)
theorem wfR_u8 {n : Int} (h : (Lit.int .u8 n).wf = true) : 0 ≤ n ∧ n ≤ 255 := by
  have e1 : IntKind.u8.min = 0 := rfl
  have e2 : IntKind.u8.max = 255 := rfl
  simp [Lit.wf, e1, e2] at h
  omega
theorem wfR_u16 {n : Int} (h : (Lit.int .u16 n).wf = true) : 0 ≤ n ∧ n ≤ 65535 := by
  have e1 : IntKind.u16.min = 0 := rfl
  have e2 : IntKind.u16.max = 65535 := rfl
  simp [Lit.wf, e1, e2] at h
  omega
theorem rdU8s : Rd Try.prog 22 (fun l : List Int => encUs l) (fun l => ∀ x ∈ l, 0 ≤ x ∧ x ≤ 255) :=
  Rd.map (Rd.slice (e := 5) (k := 1) (by' := 1) Try.underlying22 (by kernel_rfl) (by decide) (by kernel_rfl) (by decide) (fun _ => rfl) (Rd.int Try.underlying5)) id (fun _ => rfl) (fun _ h x hx => wfR_u8 (h.2 x hx))
theorem rdRaws : Rd Try.prog 51 (fun l : List (List Int) => [raws l]) (fun l => ∀ r ∈ l, ∀ x ∈ r, 0 ≤ x ∧ x ≤ 255) :=
  Rd.map (Rd.slice (e := 22) (k := 1) (by' := 24) Try.underlying51 (by kernel_rfl) (by decide) (by kernel_rfl) (by decide) (fun _ => rfl) rdU8s) id (fun _ => rfl) (fun _ h => h.2)
def encCase (p : SpecM × (List Int × Int) × List (List Int) × Int × Int) : List PV := [.slice 2 (p.1.sorts.map encSo), .slice 3 (p.1.fields.map encF), .lit (.slice p.1.preds.a p.1.preds.l p.1.preds.c), .lit (.slice p.1.facts.a p.1.facts.l p.1.facts.c), ints p.2.1.1, .lit (.int .i64 p.2.1.2), raws p.2.2.1, .lit (.int .u16 p.2.2.2.1), .lit (.int .u16 p.2.2.2.2)]
theorem rdCase : Rd Try.prog 54 encCase (fun p => (∀ r ∈ p.2.2.1, ∀ x ∈ r, 0 ≤ x ∧ x ≤ 255) ∧ (0 ≤ p.2.2.2.1 ∧ p.2.2.2.1 ≤ 65535) ∧ (0 ≤ p.2.2.2.2 ∧ p.2.2.2.2 ≤ 65535)) :=
  Rd.map (Rd.struct (n := 9) Try.underlying54 (by kernel_rfl) (RdF.cons (k := 4) (n := 5) rfl (by kernel_rfl) rdSpec (RdF.cons (k := 2) (n := 3) rfl (by kernel_rfl) rdScope (RdF.cons (k := 1) (n := 2) rfl (by kernel_rfl) rdRaws (RdF.cons (k := 1) (n := 1) rfl (by kernel_rfl) (Rd.int Try.underlying52) (RdF.cons (k := 1) (n := 0) rfl (by kernel_rfl) (Rd.int Try.underlying52) RdF.nil))))))
    (fun p => (p.1, p.2.1, p.2.2.1, p.2.2.2.1, p.2.2.2.2.1)) (fun p => rfl) (fun _ h => ⟨h.2.2.1, wfR_u16 h.2.2.2.1, wfR_u16 h.2.2.2.2.1⟩)
theorem rdBools : Rd Try.prog 23 (fun l : List Bool => [bools l]) (fun _ => True) :=
  Rd.map (Rd.slice (e := 4) (k := 1) (by' := 1) Try.underlying23 (by kernel_rfl) (by decide) (by kernel_rfl) (by decide) (fun _ => rfl) (Rd.bool Try.underlying4)) id (fun _ => rfl) (fun _ _ => trivial)
theorem ra_true {N : Nat → Prop} {w : World} {v : Value} (h : RA (pcx N) w v (litB true)) : v = .bool true := by
  cases h with
  | pv h => cases h; rfl
set_option maxRecDepth 100000 in
theorem lifted (os : Os) (started : os.Started) (H : Type) (enc : TypeId × Value → H) :
    ReturnsInHanded {} Try.checked os 5 .any (Rows.symbreakLeadersSpec.pre6 enc Try.prog Try.f5 Rows.symbreakLeadersRow.domain false) (Rows.symbreakLeadersSpec.post enc Try.prog Try.f5 false true false false) := by
  refine returnsInHanded_of_change_sized (C := Try.checked) own started (by kernel_rfl) Try.func5
    (ChangeSpec.witness6 (enc := enc) (C := Try.checked) false ⟨#[], #[.agg #[.slice none 0 0, .slice none 0 0, .slice none 0 0, .slice none 0 0, .slice none 0 0, .int .i64 0, .slice none 0 0, .int .u16 0, .int .u16 0], .slice none 0 0], []⟩ 8 (by kernel_rfl) (by kernel_rfl) (by kernel_rfl) (by kernel_rfl)) ?_
  intro W base args ds gs before hval0 hW hcnd hsz _
  have hval : ∀ (j : Nat) t v, Try.f5.params[j]? = some t → args[j]? = some v → Value.okWide Try.prog W .any base t v := hval0
  have hW' := hW
  obtain ⟨p, q, hA0, hV, rfl, hfz, hnd⟩ := hW
  have hA : DataW.TrodAll enc Try.prog W 0 (fun _ => true) true Try.f5.params.toList args.toList ds p := hA0
  rw [Try.params5] at hA hval
  obtain ⟨v0, vs0, d0, ds0, p0, q0, hargs, rfl, rfl, h0, r0⟩ := trodAll_cons hA
  obtain ⟨v1, vs1, d1, ds1, p1, q1, rfl, rfl, rfl, h1, r1⟩ := trodAll_cons r0
  obtain ⟨rfl, rfl, rfl⟩ := trodAll_nil r1
  obtain rfl : args = #[v0, v1] := by cases args; simp_all
  obtain ⟨rfl, rfl⟩ := trodVars_none hV
  have wt : ∀ (j : Nat) (t : TypeId) (d : DataW H), [54, 23][j]? = some t → [d0, d1][j]? = some d → ∀ n ∈ d.weights Try.prog t, n ≤ reachBytes := by
    intro j t d ht hd
    have hj : j < 2 := (List.getElem?_eq_some_iff.1 ht).1
    refine arg_weights hsz (j := j) ?_ ?_
    · rw [List.getElem?_append_left (by rw [Try.params5]; exact hj), Try.params5]; exact ht
    · rw [List.getElem?_append_left (by simpa using hj)]; exact hd
  obtain ⟨cs0, rfl⟩ := Ab.okWide_struct Try.underlying54 (hval 0 54 v0 rfl rfl)
  obtain ⟨a1, l1, c1, rfl⟩ := okWide_slice Try.underlying23 (hval 1 23 v1 rfl rfl)
  obtain ⟨⟨x0, ⟨y0, z0⟩, r0, c0, d0q⟩, s0, o0⟩ := arg_agg rdCase h0 (wt 0 54 d0 rfl rfl) rfl
  obtain ⟨x1, s1, o1⟩ := arg_one rdBools h1 (wt 1 23 d1 rfl rfl) slice_cells
  have lt0 : ∀ x ∈ p0, x.block < W.heap.size := by obtain ⟨m, hm⟩ := h0; exact DataW.trod_lt m _ _ _ hm
  have lt1 : ∀ x ∈ p1, x.block < W.heap.size := by obtain ⟨m, hm⟩ := h1; exact DataW.trod_lt m _ _ _ hm
  clear hA0 hval0
  refine ((lawLead_fn x0 y0 z0 r0 c0 d0q x1 o0.1 o0.2.1 o0.2.2).calls (fun _ => True) W _ (fun _ _ => trivial) rfl ?_).mono fun e W' ⟨v, he, hv, bel⟩ => ?_
  · intro j v av hj hav
    match j, hj, hav with
    | 0, hj, hav => cases hj; cases hav; exact s0
    | 1, hj, hav => cases hj; cases hav; exact s1
    | j + 2, hj, hav => simp at hav
  · obtain rfl := ra_true hv
    subst he
    exact ⟨_, rfl, _, _, _, [], _, [], hW', trodAll_mk1 (shut_bool Try.underlying4 _), (trodAll_cons_mk (Below.trod laidOut (by kernel_rfl) (of_decide_eq_true (by kernel_rfl)) h0 bel lt0) (trodAll_cons_mk (Below.trod laidOut (by kernel_rfl) (of_decide_eq_true (by kernel_rfl)) h1 bel lt1) trodAll_mk0)), rfl, bel.frame _, fun h => by cases h⟩
theorem over : Rows.symbreakLeadersRow.holds Try.pinned (OpenSpec.ofChange Rows.symbreakLeadersSpec) :=
  OpenClaim.holds_of_wide 5 Try.f5 rfl rfl rfl rfl rfl rfl rfl ⟨rfl, rfl, rfl, rfl, rfl⟩ rfl rfl rfl rfl rfl (by kernel_rfl) Try.func5 (by kernel_rfl)
    (of_decide_eq_true (by kernel_rfl)) (by unfold Func.isWrapper; first | (rw [if_pos (by decide +kernel)]; kernel_rfl) | (rw [if_neg (by decide +kernel)]; exact ⟨rfl, rfl⟩))
    (fun os started H enc _ => lifted os started H enc)
theorem proved : Rows.SymbreakLeadersSaid := over
#print axioms proved
end Go.Proofs.Ytcklfjkaadfjjaa.Law3
