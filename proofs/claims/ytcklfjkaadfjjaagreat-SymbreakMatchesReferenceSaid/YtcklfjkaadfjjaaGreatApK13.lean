/- Chapter 24: Leader, walked. -/
import Derived.Test.YtcklfjkaadfjjaaGreatApB4
import Derived.Test.YtcklfjkaadfjjaaGreatAbZ
import Derived.Test.YtcklfjkaadfjjaaGreatAbL3
import Derived.Test.YtcklfjkaadfjjaaGreatApB2
import Derived.Test.YtcklfjkaadfjjaaGreatAbL2
import Derived.WalkSmall
set_option linter.unusedSimpArgs false
set_option linter.unusedVariables false
namespace Go.Ab
open Go Go.Proofs
open Nat (reduceAdd reduceSub)
set_option maxRecDepth 20000
set_option maxHeartbeats 4000000
theorem ng_dropA {f g : Int → Bool} {o : List Int} {k : Nat} (h : k < o.length) : ngF f g (o.drop k) = if f o[k] = g o[k] then ngF f g (o.drop (k + 1)) else g o[k] := by
  rw [List.drop_eq_getElem_cons h]; rfl
def leadK (vals : List Bool) (perm : List Int) (k : Nat) : Bool := ngF (inV vals) (inV (imgM vals perm)) ((ordM perm.length).drop k)
theorem leadK_zero (vals : List Bool) (perm : List Int) : leadK vals perm 0 = leadP vals perm := rfl
theorem leadK_end (vals : List Bool) (perm : List Int) : leadK vals perm perm.length = true := by
  unfold leadK
  rw [List.drop_eq_nil_of_le (by rw [ord_len]; omega)]; rfl
theorem leadK_step (vals : List Bool) {perm : List Int} {k : Nat} (hk : k < perm.length) (hi : k < (invM perm).length) : leadK vals perm k = if inV vals ((k : Int) + 1) = inV vals (invM perm)[k] then leadK vals perm (k + 1) else inV vals (invM perm)[k] := by
  have hl : k < (ordM perm.length).length := by rw [ord_len]; exact hk
  unfold leadK
  rw [ng_dropA hl, ord_at hl, img_at _ (by omega)]
  have e := inv_at (perm := perm) (w := (k : Int) + 1) (by omega) (by rw [inv_len]; omega)
  have e2 : (invM perm)[((k : Int) + 1 - 1).toNat]'(by rw [inv_len]; omega) = (invM perm)[k] := by
    congr 1
    omega
  rw [← e, e2]
attribute [local irreducible] AW AOps thenD inBlockD AR iterEnds roundEndsN inlEnds noGotoD EndsX invM leadK inV
theorem pValue_fn (vals : List Bool) (v : Int) (h1 : 1 ≤ v) (h2 : v ≤ 1000000) : Fn Tryz.prog 35 [litI v, .rptr [bools vals]] (litB (inV vals v)) := by
  by_cases h : v ≤ (vals.length : Int)
  · rw [inV_at h1 h]
    refine Fn.enter (n := 15) Tryz.func35 rfl rfl rfl rfl rfl (by decide) fun g hro_ hwt_ => ?_; (try refine nz ?_)
    (refine Q335 ?_; refine zr ?_; refine Q266 ?_; refine zm ?_; refine Q159 ?_; refine zm ?_; refine Q152 ?_; (focus ((with_reducible apply AOps.index_mapI); (iterate 7 exact rfl); omega; rotate_left; (first | omega | exact Nat.zero_lt_one | exact (by simp)))); refine zt ?_; refine zr ?_; refine zT ?_; refine Q42 ?_)
    (apply ends_ret; (exact Res.one (.tmp rfl rfl)); (refine Le.litB ?_; (rfl)))
  · rw [inV_out h1 h]
    refine Fn.enter (n := 15) Tryz.func35 rfl rfl rfl rfl rfl (by decide) fun g hro_ hwt_ => ?_; (try refine nz ?_)
    (refine Q335 ?_; refine zr ?_; refine Q266 ?_; refine zm ?_; refine Q205 ?_; refine Q42 ?_)
    (apply ends_ret; (exact Res.one (.tmp rfl rfl)); (refine Le.litB ?_; (rfl)))
abbrev lO (vals : List Bool) : List (Nat × Option Ob) := [(0, some (.box [.pv (bools vals)])), (1, some (.box [.clo (.func 35) [] [.ptr 0 0]]))]
theorem pGreater_fn (vals : List Bool) (perm : List Int) (hp : PermOk perm) (hl : perm.length ≤ 100000) : FnX Tryz.prog 37 2 (lO vals) [.pv (ints perm), .ptr 1 0] (lO vals) (litB (!leadP vals perm)) := by
  have hiv := inverse_fn perm hp hl
  have hil := inv_len perm
  simp only [lO]
  rw [← leadK_zero]
  refine FnX.enter (n := 28) Tryz.func37 rfl rfl rfl rfl rfl (by decide) rfl rfl fun g hro_ hwt_ => ?_; refine Q140 ?_
  (refine zq ?_; refine Q214 ?_; refine zP (hiv) ?_; refine zn ?_; refine Q226 ?_)
  (refine nz ?_; apply AW.loopR [10, 9, 1, 1000] [0, 1] (fun k : Nat => ([(11, litI k)] : List (Nat × AV))) (fun k : Nat => ([] : List (Nat × Option Ob))) (fun k : Nat => k ≤ perm.length ∧ leadK vals perm 0 = leadK vals perm k) (fun k : Nat => perm.length - k) (0); (conv => lhs; simp only [Nf.lpR, Nf.all, Nat.reduceBEq, reduceAdd, reduceSub]); (all_goals skip))
  · exact ⟨Nat.zero_le _, rfl⟩
  · exact weak rfl (by (refine ⟨.eq rfl rfl, ?_⟩; (iterate 4 refine ⟨.eq rfl rfl, ?_⟩); exact trivial)) (by (refine ⟨.box _ rfl ?_, ?_⟩; refine ⟨.eq rfl rfl, ?_⟩; exact trivial; refine ⟨.box _ rfl ?_, ?_⟩; refine ⟨.eq rfl rfl, ?_⟩; (iterate 2 exact trivial))) rfl
  rintro k ⟨hk, he⟩
  by_cases hlt : k < perm.length
  · have hli : k < (invM perm).length := by omega
    have hs := leadK_step vals hlt hli
    have hr := hp.back (w := (k : Int) + 1) (by omega)
    have e := inv_at (perm := perm) (w := (k : Int) + 1) (by omega) (by omega)
    have e2 : (invM perm)[((k : Int) + 1 - 1).toNat]'(by omega) = (invM perm)[k] := by
      congr 1
      omega
    rw [← e, e2] at hr
    clear e e2
    have v1 := pValue_fn vals ((k : Int) + 1) (by omega) (by omega)
    have v2 := pValue_fn vals (invM perm)[k] (by omega) (by omega)
    generalize inV vals ((k : Int) + 1) = x at hs v1
    generalize inV vals (invM perm)[k] = y at hs v2
    by_cases hxy : x = y
    · rw [if_pos hxy] at hs
      (refine Q181 ?_; refine zm ?_; (focus ((with_reducible apply AOps.index_map); (iterate 7 exact rfl); rotate_left; omega)); refine zr ?_; (iterate 2 refine za ?_); refine zd ?_; refine zo ?_; refine AW.regionM [0, 1, 2, 4, 5] [] rfl (by assumption) (by kernel_rfl) (by kernel_rfl) rfl ?_; show AOps .held _ _ _ [_, _, _, _, _] _ _; refine zb ?_; refine zm ?_; refine zj ?_; refine zb ?_; refine zm ?_; refine Q7 ?_; intro k_ hk_; refine nz ?_; refine AR.step1M (i := 3) rfl (by kernel_rfl) rfl ?_; intro g_ hgro_ hw_; refine zC (v1) ?_; refine Q199 ?_; intro g_ hgro_ hw_; refine zC (v2) ?_; refine Q7 ?_; refine AR.readsM [7, 8] (by kernel_rfl) (by kernel_rfl) (by kernel_rfl) (by kernel_rfl) ?_; intro g_ hgro_; show AOps .held _ _ _ [_, _] _ _; (iterate 2 refine za ?_); refine Q7 ?_; intro k_ hk_; refine nz ?_; refine Q33 ?_; refine zq ?_; refine Q313 ?_; refine zd ?_; (focus ((with_reducible apply AW.condD); exact rfl; exact rfl; all_goals intro hc_)); refine Q4 ?_; refine zm ?_; refine Q200 ?_; (all_goals skip); rotate_left; refine AW.skip ?_; refine Q110 ?_; (all_goals skip); rotate_left)
      · exact absurd hxy hc_
      exact ⟨k + 1, ⟨by omega, he.trans hs⟩, by omega, weak rfl (by (refine ⟨.eq rfl rfl, ?_⟩; (iterate 4 refine ⟨.eq rfl rfl, ?_⟩); exact trivial)) (by (refine ⟨.box _ rfl ?_, ?_⟩; refine ⟨.eq rfl rfl, ?_⟩; exact trivial; refine ⟨.box _ rfl ?_, ?_⟩; refine ⟨.eq rfl rfl, ?_⟩; (iterate 2 exact trivial))) rfl⟩
    · rw [if_neg hxy] at hs
      rw [he, hs]
      have hy : (!y) = x := by cases x <;> cases y <;> simp_all
      rw [hy]
      (refine Q181 ?_; refine zm ?_; (focus ((with_reducible apply AOps.index_map); (iterate 7 exact rfl); rotate_left; omega)); refine zr ?_; (iterate 2 refine za ?_); refine zd ?_; refine zo ?_; refine AW.regionM [0, 1, 2, 4, 5] [] rfl (by assumption) (by kernel_rfl) (by kernel_rfl) rfl ?_; show AOps .held _ _ _ [_, _, _, _, _] _ _; refine zb ?_; refine zm ?_; refine zj ?_; refine zb ?_; refine zm ?_; refine Q7 ?_; intro k_ hk_; refine nz ?_; refine AR.step1M (i := 3) rfl (by kernel_rfl) rfl ?_; intro g_ hgro_ hw_; refine zC (v1) ?_; refine Q199 ?_; intro g_ hgro_ hw_; refine zC (v2) ?_; refine Q7 ?_; refine AR.readsM [7, 8] (by kernel_rfl) (by kernel_rfl) (by kernel_rfl) (by kernel_rfl) ?_; intro g_ hgro_; show AOps .held _ _ _ [_, _] _ _; (iterate 2 refine za ?_); refine Q7 ?_; intro k_ hk_; refine nz ?_; refine Q33 ?_; refine zq ?_; refine Q313 ?_; refine Q334 ?_; refine Q200 ?_)
      (apply endsX_ret; ((exact Res.one (.tmp rfl rfl))); ((refine ⟨.boolE (by first | with_reducible rfl | (rfl)), ?_⟩; refine ⟨.eq rfl rfl, ?_⟩; exact trivial)); ((refine ⟨.box _ rfl ?_, ?_⟩; refine ⟨.pvE (by first | with_reducible rfl | (rfl)), ?_⟩; exact trivial; exact Q8)); exact rfl)
  · obtain rfl : k = perm.length := by omega
    rw [he, leadK_end]
    (refine Q52 ?_; refine Q189 ?_)
    (apply endsX_ret; ((exact Res.one (.tmp rfl rfl))); ((refine ⟨.boolE (by first | with_reducible rfl | (rfl)), ?_⟩; refine ⟨.eq rfl rfl, ?_⟩; exact trivial)); ((refine ⟨.box _ rfl ?_, ?_⟩; refine ⟨.pvE (by first | with_reducible rfl | (rfl)), ?_⟩; exact trivial; exact Q8)); exact rfl)
end Go.Ab
/- slices' functions that take functions. -/
namespace Go.Ab
open Go Go.Proofs
open Nat (reduceAdd reduceSub)
set_option maxRecDepth 20000
set_option maxHeartbeats 4000000
attribute [local irreducible] AW AOps thenD inBlockD AR iterEnds roundEndsN inlEnds noGotoD
end Go.Ab
/- Chapter 24: Leader over several permutations, walked. -/
namespace Go.Ab
open Go Go.Proofs
open Nat (reduceAdd reduceSub)
set_option maxRecDepth 20000
set_option maxHeartbeats 4000000
attribute [local irreducible] AW AOps thenD inBlockD AR iterEnds roundEndsN inlEnds noGotoD EndsX invM leadP inV
theorem leader_fn (vals : List Bool) (perms : List (List Int)) (hp : ∀ p ∈ perms, PermOk p ∧ p.length ≤ 100000) (hl : perms.length ≤ 100000) : Fn Tryz.prog 12 [.pv (bools vals), .pv (intss perms)] (litB (leadM vals perms)) := by
  have hg := fun p h => pGreater_fn vals p (hp p h).1 (hp p h).2
  simp only [lO] at hg
  refine Fn.enter (n := 11) Tryz.func12 rfl rfl rfl rfl rfl (by decide) fun g hro_ hwt_ => ?_; (try refine nz ?_)
  (refine Q64 ?_; refine Q51 ?_; refine AOps.makeFunc_c rfl rfl rfl ?_; refine Q9 ?_; refine Q35 ?_; refine nz ?_; refine Q326 ?_; refine zm ?_; refine AOps.makeFunc_c rfl rfl rfl ?_; (with_reducible apply AOps.inline (hf := Tryz.func36)); (with_reducible assumption); (iterate 10 exact rfl); intro g_ hro_ hwt_; refine nz ?_; refine Q335 ?_; refine AOps.move_clo rfl rfl rfl ?_; (with_reducible apply AOps.inline (hf := Tryz.func82)); (with_reducible assumption); (iterate 10 exact rfl); intro g_ hro_ hwt_; refine nz ?_; refine zq ?_; refine Q214 ?_; refine zn ?_; refine Q226 ?_)
  (refine nz ?_; apply AW.loopR [7, 0, 1, 1006, 1005, 1004, 1000, 1001, 2008, 2007, 2005, 2004, 2001] [1, 0] (fun k : Nat => ([(8, litI k)] : List (Nat × AV))) (fun k : Nat => ([] : List (Nat × Option Ob))) (fun k : Nat => k ≤ perms.length ∧ leadM vals perms = (perms.drop k).all (leadP vals)) (fun k : Nat => perms.length - k) (0); (conv => lhs; simp only [Nf.lpR, Nf.all, Nat.reduceBEq, reduceAdd, reduceSub]); (all_goals skip))
  · exact ⟨Nat.zero_le _, rfl⟩
  · exact weak rfl (by (refine ⟨.eq rfl rfl, ?_⟩; (iterate 13 refine ⟨.eq rfl rfl, ?_⟩); exact trivial)) (by (refine ⟨.box _ rfl ?_, ?_⟩; refine ⟨.eq rfl rfl, ?_⟩; exact trivial; refine ⟨.box _ rfl ?_, ?_⟩; refine ⟨.eq rfl rfl, ?_⟩; (iterate 2 exact trivial))) rfl
  rintro k ⟨hk, he⟩
  by_cases hlt : k < perms.length
  · have hx := hg perms[k] (List.getElem_mem hlt)
    rw [List.drop_eq_getElem_cons hlt, List.all_cons] at he
    cases hb : leadP vals perms[k] with
    | true =>
      rw [hb] at hx he
      rw [Bool.true_and] at he
      simp only [Bool.not_true] at hx
      (refine Q181 ?_; refine zm ?_; refine Q51 ?_; refine AOps.move_clo rfl rfl rfl ?_; (iterate 2 refine zm ?_); (focus ((with_reducible apply AOps.index_map); (iterate 7 exact rfl); rotate_left; omega)); refine zr ?_; refine zX (hx) ?_; refine nx ?_; refine nz ?_; refine Q45 ?_; refine Q11 ?_; refine zj ?_; refine zm ?_; refine zd ?_)
      exact ⟨k + 1, ⟨by omega, he⟩, by omega, weak rfl (by (refine ⟨.eq rfl rfl, ?_⟩; (iterate 13 refine ⟨.eq rfl rfl, ?_⟩); exact trivial)) (by (refine ⟨.box _ rfl ?_, ?_⟩; refine ⟨.eq rfl rfl, ?_⟩; exact trivial; refine ⟨.box _ rfl ?_, ?_⟩; refine ⟨.eq rfl rfl, ?_⟩; (iterate 2 exact trivial))) rfl⟩
    | false =>
      rw [hb] at hx he
      rw [Bool.false_and] at he
      rw [he]
      simp only [Bool.not_false] at hx
      (refine Q181 ?_; refine zm ?_; refine Q51 ?_; refine AOps.move_clo rfl rfl rfl ?_; (iterate 2 refine zm ?_); (focus ((with_reducible apply AOps.index_map); (iterate 7 exact rfl); rotate_left; omega)); refine zr ?_; refine zX (hx) ?_; refine nx ?_; refine nz ?_; refine Q251 ?_; refine zq ?_; refine zm ?_; refine Q200 ?_; refine Q330 ?_)
      (apply ends_ret; (exact Res.one (.tmp rfl rfl)); (refine Le.litB ?_; (rfl)))
  · rw [List.drop_eq_nil_of_le (by omega)] at he
    rw [he]
    (refine Q52 ?_; refine Q189 ?_; refine Q330 ?_)
    (apply ends_ret; (exact Res.one (.tmp rfl rfl)); (refine Le.litB ?_; (rfl)))
end Go.Ab
/- Chapter 24: the predicates of several permutations, in plain terms. -/
namespace Go.Ab
open Go Go.Proofs
set_option maxRecDepth 20000
set_option maxHeartbeats 4000000
def brkS (p : List GateM × Int) (l : List Int) : List GateM × Int := andG (predM p.1 l (ordM l.length)).1 p.2 (predM p.1 l (ordM l.length)).2
def brkM (gs : List GateM) (ls : List (List Int)) : List GateM × Int := ls.foldl brkS (gs, 0)
theorem brk_snoc (gs : List GateM) {ls : List (List Int)} {k : Nat} (h : k < ls.length) : brkM gs (ls.take (k + 1)) = brkS (brkM gs (ls.take k)) ls[k] := by
  unfold brkM
  rw [List.take_succ_eq_append_getElem h, List.foldl_append]; rfl
theorem ord_inc (n : Nat) : Inc (ordM n) := by
  unfold ordM Inc
  exact List.Pairwise.map _ (fun a b h => by omega) List.pairwise_lt_range
theorem sort_ord {n : Nat} {l : List Int} (h : PermN n l) : sortL l = ordM n := by
  have hp : (sortL l).Perm l := List.mergeSort_perm l _
  have hnd : (sortL l).Nodup := hp.nodup_iff.2 h.nodup
  have hle := sort_le l
  refine inc_ext (List.Pairwise.imp₂ (fun a b h1 h2 => ?_) hle hnd) (ord_inc n) fun x => ?_
  · exact Int.lt_iff_le_and_ne.2 ⟨h1, h2⟩
  · rw [sort_mem, ord_mem]
    exact ⟨fun hx => h.rng x hx, fun hx => h.ok.all (by rw [h.len]; exact hx)⟩
theorem pred_lead {gs : List GateM} {l : List Int} {n : Nat} (hc : CirOk gs) (hl : PermN n l) (hn : n ≤ 1000) (hg : gs.length + 6 * n < 18000) : Pred gs (6 * n) (predM gs l (ordM l.length)) (fun v => leadP v l) := by
  have h := pred_ok hc hl.ok (by rw [hl.len]; exact hn) (ordM l.length) (fun w hw => ord_mem.1 hw) (by rw [ord_len, hl.len]; exact hg)
  have e : 6 * (ordM l.length).length = 6 * n := by rw [ord_len, hl.len]
  rw [e] at h
  refine ⟨h.cir, h.ref, h.le, h.len, h.keep, fun v => ?_, h.nodup⟩
  rw [h.val v]
  unfold leadP
  exact ng_congr _ (fun w _ => rfl) fun w hw => (img_at v (ord_mem.1 hw)).symm
theorem brk_ok {gs : List GateM} (hc : CirOk gs) {ls : List (List Int)} {n : Nat} (hls : ∀ l ∈ ls, PermN n l) (hn : n ≤ 1000) (hg : gs.length + ls.length * (6 * n + 1) < 18000) : ∀ k, k ≤ ls.length → Pred gs (k * (6 * n + 1)) (brkM gs (ls.take k)) (fun v => leadM v (ls.take k))
  | 0, _ => ⟨hc, ⟨Int.le_refl _, by have := hc.pos; show (0 : Int) < 2 * (gs.length : Int); omega⟩, Nat.le_refl _, Nat.le_add_right _ _, fun v r _ => rfl, fun v => evalG_0 hc v, fun h => h⟩
  | k + 1, hk => by
    have ih := brk_ok hc hls hn hg k (by omega)
    have hlt : k < ls.length := by omega
    rw [brk_snoc gs hlt]
    have hle : (k + 1) * (6 * n + 1) ≤ ls.length * (6 * n + 1) := Nat.mul_le_mul_right _ hk
    rw [Nat.succ_mul] at hle
    obtain ⟨c0, r0, l0, m0, k0, v0, n0⟩ := ih
    have hp := pred_lead c0 (hls _ (List.getElem_mem hlt)) hn (by omega)
    unfold brkS
    generalize brkM gs (ls.take k) = p at c0 r0 l0 m0 k0 v0 n0 hp ⊢
    generalize predM p.1 ls[k] (ordM ls[k].length) = q at hp ⊢
    obtain ⟨c1, r1, l1, m1, k1, v1, n1⟩ := hp
    have ga := and_ok c1 (r0.mono l1) r1 (by omega)
    have va := and_ev c1 (r0.mono l1) r1 (by omega)
    have la := ga.le
    have ma := ga.len
    refine ⟨ga.cir, ga.ref, by omega, by rw [Nat.succ_mul]; omega, fun v r hr => ?_, fun v => ?_, fun h => and_nodup (n1 (n0 h))⟩
    · rw [va.keep v r ((hr.mono l0).mono l1), k1 v r (hr.mono l0), k0 v r hr]
    · rw [va.val v, k1 v _ r0, v0 v, v1 v]
      unfold leadM
      rw [List.take_succ_eq_append_getElem hlt, List.all_append]
      simp
end Go.Ab
/- Chapter 24: permutations of atoms, images of ranks, the group of symmetries, in plain terms. -/
namespace Go.Ab
open Go Go.Proofs
set_option maxRecDepth 20000
set_option maxHeartbeats 4000000
def imgR (n : Nat) (p : List Int) : Nat → Int → Int
  | 0, _ => 0
  | a + 1, t => p.getD (t % (n : Int)).toNat 0 + (n : Int) * imgR n p a (t / (n : Int))
structure PermA (n : Nat) (srt : Int → Int) (p : List Int) : Prop where
  len : p.length = n
  nodup : p.Nodup
  rng : ∀ x ∈ p, 0 ≤ x ∧ x < (n : Int)
  srt : ∀ (i : Nat) (h : i < p.length), srt p[i] = srt (i : Int)
theorem PermA.at {n : Nat} {srt : Int → Int} {p : List Int} (h : PermA n srt p) {i : Nat} (hi : i < n) : p.getD i 0 = p[i]'(by rw [h.len]; exact hi) := by
  rw [List.getD_eq_getElem?_getD, List.getElem?_eq_getElem (by rw [h.len]; exact hi)]; rfl
theorem PermA.lt {n : Nat} {srt : Int → Int} {p : List Int} (h : PermA n srt p) {i : Nat} (hi : i < n) : 0 ≤ p.getD i 0 ∧ p.getD i 0 < (n : Int) := by
  rw [h.at hi]; exact h.rng _ (List.getElem_mem _)
theorem PermA.inj {n : Nat} {srt : Int → Int} {p : List Int} (h : PermA n srt p) {i j : Nat} (hi : i < n) (hj : j < n) (e : p.getD i 0 = p.getD j 0) : i = j := by
  rw [h.at hi, h.at hj] at e
  exact (List.getElem_inj h.nodup).1 e
theorem mod_lt {n : Nat} (hn : 0 < n) (t : Int) : (t % (n : Int)).toNat < n := by
  have h1 := Int.emod_nonneg t (show (n : Int) ≠ 0 by omega)
  have h2 := Int.emod_lt_of_pos t (show 0 < (n : Int) by omega)
  omega
theorem pow_succ_cast (n a : Nat) : ((n ^ (a + 1) : Nat) : Int) = (n : Int) * ((n ^ a : Nat) : Int) := by
  rw [Nat.pow_succ, Nat.mul_comm]; exact Int.natCast_mul _ _
theorem div_rng {n a : Nat} (hn : 0 < n) {t : Int} (h : 0 ≤ t ∧ t < ((n ^ (a + 1) : Nat) : Int)) : 0 ≤ t / (n : Int) ∧ t / (n : Int) < ((n ^ a : Nat) : Int) := by
  rw [pow_succ_cast] at h
  exact ⟨Int.ediv_nonneg h.1 (by omega), Int.ediv_lt_of_lt_mul (by omega) (by rw [Int.mul_comm]; exact h.2)⟩
theorem add_mul_rng {n a : Nat} {d s : Int} (hd : 0 ≤ d ∧ d < (n : Int)) (hs : 0 ≤ s ∧ s < ((n ^ a : Nat) : Int)) : 0 ≤ d + (n : Int) * s ∧ d + (n : Int) * s < ((n ^ (a + 1) : Nat) : Int) := by
  rw [pow_succ_cast]
  have h1 : 0 ≤ (n : Int) * s := Int.mul_nonneg (by omega) hs.1
  have h2 : (n : Int) * (s + 1) ≤ (n : Int) * ((n ^ a : Nat) : Int) := Int.mul_le_mul_of_nonneg_left (by omega) (by omega)
  rw [Int.mul_add, Int.mul_one] at h2
  omega
theorem digit_mod {n : Nat} {d s : Int} (hd : 0 ≤ d ∧ d < (n : Int)) : (d + (n : Int) * s) % (n : Int) = d := by
  rw [Int.add_mul_emod_self_left, Int.emod_eq_of_lt hd.1 hd.2]
theorem digit_div {n : Nat} (hn : 0 < n) {d s : Int} (hd : 0 ≤ d ∧ d < (n : Int)) : (d + (n : Int) * s) / (n : Int) = s := by
  rw [Int.add_mul_ediv_left _ _ (by omega), Int.ediv_eq_zero_of_lt hd.1 hd.2, Int.zero_add]
theorem img_rng {n : Nat} {srt : Int → Int} {p : List Int} (h : PermA n srt p) (hn : 0 < n) : ∀ (a : Nat) (t : Int), 0 ≤ imgR n p a t ∧ imgR n p a t < ((n ^ a : Nat) : Int)
  | 0, _ => by simp [imgR]
  | a + 1, t => add_mul_rng (h.lt (mod_lt hn t)) (img_rng h hn a _)
theorem img_inj {n : Nat} {srt : Int → Int} {p : List Int} (h : PermA n srt p) (hn : 0 < n) : ∀ (a : Nat) {t u : Int}, (0 ≤ t ∧ t < ((n ^ a : Nat) : Int)) → (0 ≤ u ∧ u < ((n ^ a : Nat) : Int)) → imgR n p a t = imgR n p a u → t = u
  | 0, t, u, ht, hu, _ => by rw [Nat.pow_zero] at ht hu; omega
  | a + 1, t, u, ht, hu, e => by
    have d1 := h.lt (mod_lt hn t)
    have d2 := h.lt (mod_lt hn u)
    have e1 : p.getD (t % (n : Int)).toNat 0 = p.getD (u % (n : Int)).toNat 0 := by
      have := congrArg (· % (n : Int)) e
      simp only [imgR] at this
      rwa [digit_mod d1, digit_mod d2] at this
    have e2 : imgR n p a (t / (n : Int)) = imgR n p a (u / (n : Int)) := by
      have := congrArg (· / (n : Int)) e
      simp only [imgR] at this
      rwa [digit_div hn d1, digit_div hn d2] at this
    have e3 := h.inj (mod_lt hn t) (mod_lt hn u) e1
    have e4 := img_inj h hn a (div_rng hn ht) (div_rng hn hu) e2
    have m1 := Int.emod_nonneg t (show (n : Int) ≠ 0 by omega)
    have m2 := Int.emod_nonneg u (show (n : Int) ≠ 0 by omega)
    have e5 : t % (n : Int) = u % (n : Int) := by omega
    have q1 := Int.emod_add_mul_ediv t n
    have q2 := Int.emod_add_mul_ediv u n
    rw [← q1, ← q2, e5, e4]
def compA (p q : List Int) : List Int := q.map fun x => p.getD x.toNat 0
theorem comp_len (p q : List Int) : (compA p q).length = q.length := by simp [compA]
theorem comp_get {p q : List Int} {i : Nat} (h : i < (compA p q).length) : (compA p q)[i] = p.getD (q[i]'(by rwa [comp_len] at h)).toNat 0 := by simp [compA]
theorem comp_at {p q : List Int} {i : Nat} (h : i < q.length) : (compA p q).getD i 0 = p.getD (q.getD i 0).toNat 0 := by
  rw [List.getD_eq_getElem?_getD, List.getElem?_eq_getElem (by rw [comp_len]; exact h), List.getD_eq_getElem?_getD (l := q), List.getElem?_eq_getElem h]
  simp [compA]
theorem img_compA {n : Nat} {srt : Int → Int} {p q : List Int} (hq : PermA n srt q) (hn : 0 < n) : ∀ (a : Nat) (t : Int), imgR n (compA p q) a t = imgR n p a (imgR n q a t)
  | 0, _ => rfl
  | a + 1, t => by
    have d1 := hq.lt (mod_lt hn t)
    have e : imgR n (compA p q) (a + 1) t = (compA p q).getD (t % (n : Int)).toNat 0 + (n : Int) * imgR n (compA p q) a (t / (n : Int)) := rfl
    have e2 : imgR n p (a + 1) (imgR n q (a + 1) t) = p.getD (imgR n q (a + 1) t % (n : Int)).toNat 0 + (n : Int) * imgR n p a (imgR n q (a + 1) t / (n : Int)) := rfl
    have e3 : imgR n q (a + 1) t = q.getD (t % (n : Int)).toNat 0 + (n : Int) * imgR n q a (t / (n : Int)) := rfl
    rw [e, e2, e3, digit_mod d1, digit_div hn d1, comp_at (by rw [hq.len]; exact mod_lt hn t), img_compA hq hn a]
def invA (p : List Int) : List Int := (List.range p.length).map fun j : Nat => ((p.findIdx fun x => decide (x = (j : Int)) : Nat) : Int)
theorem invA_len (p : List Int) : (invA p).length = p.length := by simp [invA]
theorem invA_at {p : List Int} {j : Nat} (h : j < (invA p).length) : (invA p)[j] = ((p.findIdx fun x => decide (x = (j : Int)) : Nat) : Int) := by simp [invA]
theorem mem_of_nodup (n : Nat) {p : List Int} (hnd : p.Nodup) (hr : ∀ x ∈ p, 0 ≤ x ∧ x < (n : Int)) (hl : p.length = n) {j : Int} (hj : 0 ≤ j ∧ j < (n : Int)) : j ∈ p := by
  apply Classical.byContradiction
  intro hn
  have := nodup_len n (l := (j :: p).map (· + 1)) (by
    refine List.Pairwise.map _ (fun a b hab e => hab (by omega)) (List.nodup_cons.2 ⟨hn, hnd⟩)) (fun x hx => by
    obtain ⟨y, hy, rfl⟩ := List.mem_map.1 hx
    rcases List.mem_cons.1 hy with rfl | hy
    · omega
    · have := hr y hy; omega)
  simp only [List.length_map, List.length_cons] at this
  omega
theorem PermA.find {n : Nat} {srt : Int → Int} {p : List Int} (h : PermA n srt p) {j : Nat} (hj : j < n) : ∃ i : Nat, ∃ hi : i < p.length, (p.findIdx fun x => decide (x = (j : Int))) = i ∧ p[i] = (j : Int) :=
  find_at (mem_of_nodup n h.nodup h.rng h.len (by omega))
theorem PermA.inv_at {n : Nat} {srt : Int → Int} {p : List Int} (h : PermA n srt p) {i : Nat} (hi : i < n) : (invA p).getD (p.getD i 0).toNat 0 = (i : Int) := by
  have hl := h.lt hi
  have hln := h.len
  have hlt : (p.getD i 0).toNat < (invA p).length := by rw [invA_len]; omega
  obtain ⟨k, hk, k1, k2⟩ := h.find (j := (p.getD i 0).toNat) (by omega)
  rw [List.getD_eq_getElem?_getD, List.getElem?_eq_getElem hlt]
  show (invA p)[_] = _
  rw [invA_at, k1]
  have : k = i := h.inj (by omega) hi (by rw [h.at (by omega), k2]; omega)
  omega
theorem PermA.inv {n : Nat} {srt : Int → Int} {p : List Int} (h : PermA n srt p) : PermA n srt (invA p) := by
  have hln := h.len
  refine ⟨by rw [invA_len, h.len], ?_, fun x hx => ?_, fun j hj => ?_⟩
  · unfold List.Nodup
    rw [List.pairwise_iff_getElem]
    intro a b ha hb hab e
    rw [invA_at, invA_at] at e
    rw [invA_len] at ha hb
    obtain ⟨i, i0, i1, i2⟩ := h.find (j := a) (by omega)
    obtain ⟨j, j0, j1, j2⟩ := h.find (j := b) (by omega)
    rw [i1, j1] at e
    have : i = j := by omega
    subst this
    omega
  · obtain ⟨j, hj, rfl⟩ := List.getElem_of_mem hx
    rw [invA_at]
    rw [invA_len] at hj
    obtain ⟨i, i0, i1, i2⟩ := h.find (j := j) (by omega)
    rw [i1]
    omega
  · rw [invA_at]
    rw [invA_len] at hj
    obtain ⟨i, i0, i1, i2⟩ := h.find (j := j) (by omega)
    rw [i1, ← h.srt i i0, i2]
def idA (n : Nat) : List Int := (List.range n).map fun i : Nat => (i : Int)
theorem idA_at {n i : Nat} (h : i < n) : (idA n).getD i 0 = (i : Int) := by
  rw [List.getD_eq_getElem?_getD, List.getElem?_eq_getElem (by simp [idA]; exact h)]
  simp [idA]
theorem idA_len (n : Nat) : (idA n).length = n := by simp [idA]
theorem PermA.id (n : Nat) (srt : Int → Int) : PermA n srt (idA n) := by
  refine ⟨idA_len n, ?_, fun x hx => ?_, fun i h => by simp [idA]⟩
  · unfold idA
    refine List.Pairwise.map _ (fun a b hab e => hab (by omega)) List.nodup_range
  · obtain ⟨y, hy, rfl⟩ := List.mem_map.1 hx
    have := List.mem_range.1 hy
    omega
theorem inv_comp {n : Nat} {srt : Int → Int} {p : List Int} (h : PermA n srt p) : compA (invA p) p = idA n := by
  have hln := h.len
  refine List.ext_getElem (by rw [comp_len, h.len, idA_len]) fun i h1 h2 => ?_
  rw [idA_len] at h2
  rw [comp_get]
  have := h.inv_at h2
  rw [h.at h2] at this
  rw [this]
  simp [idA]
theorem img_id {n : Nat} (hn : 0 < n) : ∀ (a : Nat) {t : Int}, (0 ≤ t ∧ t < ((n ^ a : Nat) : Int)) → imgR n (idA n) a t = t
  | 0, t, h => by rw [Nat.pow_zero] at h; show (0 : Int) = t; omega
  | a + 1, t, h => by
    show (idA n).getD (t % (n : Int)).toNat 0 + (n : Int) * imgR n (idA n) a (t / (n : Int)) = t
    rw [idA_at (mod_lt hn t), img_id hn a (div_rng hn h)]
    have m1 := Int.emod_nonneg t (show (n : Int) ≠ 0 by omega)
    have q1 := Int.emod_add_mul_ediv t n
    omega
def keepL (n : Nat) (p : List Int) (a : Nat) (ts : List Int) : Bool := decide (canon (ts.map (imgR n p a)) = ts)
structure RanksOk (n a : Nat) (ts : List Int) : Prop where
  inc : Inc ts
  rng : ∀ t ∈ ts, 0 ≤ t ∧ t < ((n ^ a : Nat) : Int)
theorem keep_iff {n a : Nat} {p ts : List Int} (h : Inc ts) : keepL n p a ts = true ↔ ∀ x, x ∈ ts.map (imgR n p a) ↔ x ∈ ts := by
  unfold keepL
  rw [decide_eq_true_iff]
  constructor
  · intro e x
    rw [← canon_mem (zs := ts.map (imgR n p a)), e]
  · intro e
    exact inc_ext (canon_inc _) h fun x => by rw [canon_mem]; exact e x
theorem keep_mem {n a : Nat} {p ts : List Int} (h : Inc ts) (hk : keepL n p a ts = true) {t : Int} (ht : t ∈ ts) : imgR n p a t ∈ ts :=
  ((keep_iff h).1 hk _).1 (List.mem_map.2 ⟨t, ht, rfl⟩)
theorem keep_back {n a : Nat} {srt : Int → Int} {p ts : List Int} (hp : PermA n srt p) (hn : 0 < n) (h : RanksOk n a ts) (hk : keepL n p a ts = true) {t : Int} (ht : 0 ≤ t ∧ t < ((n ^ a : Nat) : Int)) (hi : imgR n p a t ∈ ts) : t ∈ ts := by
  obtain ⟨u, hu, e⟩ := List.mem_map.1 (((keep_iff h.inc).1 hk _).2 hi)
  rw [← img_inj hp hn a (h.rng u hu) ht e]
  exact hu
theorem keep_inv {n a : Nat} {srt : Int → Int} {p ts : List Int} (hp : PermA n srt p) (hn : 0 < n) (h : RanksOk n a ts) (h1 : keepL n p a ts = true) : keepL n (invA p) a ts = true := by
  have key : ∀ t ∈ ts, imgR n (invA p) a (imgR n p a t) = t := fun t ht => by
    rw [← img_compA hp hn, inv_comp hp, img_id hn a (h.rng t ht)]
  rw [keep_iff h.inc] at h1 ⊢
  intro x
  constructor
  · intro hx
    obtain ⟨t, ht, rfl⟩ := List.mem_map.1 hx
    obtain ⟨u, hu, rfl⟩ := List.mem_map.1 ((h1 t).2 ht)
    rw [key u hu]
    exact hu
  · intro hx
    exact List.mem_map.2 ⟨imgR n p a x, (h1 _).1 (List.mem_map.2 ⟨x, hx, rfl⟩), key x hx⟩
theorem keep_id {n a : Nat} (hn : 0 < n) {ts : List Int} (h : RanksOk n a ts) : keepL n (idA n) a ts = true := by
  rw [keep_iff h.inc]
  intro x
  constructor
  · intro hx
    obtain ⟨t, ht, rfl⟩ := List.mem_map.1 hx
    rw [img_id hn a (h.rng t ht)]; exact ht
  · intro hx
    exact List.mem_map.2 ⟨x, hx, img_id hn a (h.rng x hx)⟩
def allM (n : Nat) (srt : Int → Int) : Nat → List (List Int)
  | 0 => [[]]
  | i + 1 => (allM n srt i).flatMap fun p => ((List.range n).filter fun x : Nat => decide (srt x = srt i) && !decide ((x : Int) ∈ p)).map fun x : Nat => p ++ [(x : Int)]
theorem allM_mem {n : Nat} {srt : Int → Int} : ∀ {i : Nat} {p : List Int}, p ∈ allM n srt i ↔ p.length = i ∧ p.Nodup ∧ (∀ x ∈ p, 0 ≤ x ∧ x < (n : Int)) ∧ ∀ (k : Nat) (h : k < p.length), srt p[k] = srt (k : Int)
  | 0, p => by
    rw [allM, List.mem_singleton]
    constructor
    · rintro rfl
      exact ⟨rfl, List.nodup_nil, by simp, by simp⟩
    · rintro ⟨h, _⟩
      exact List.eq_nil_of_length_eq_zero h
  | i + 1, p => by
    rw [allM, List.mem_flatMap]
    constructor
    · rintro ⟨q, hq, hp⟩
      obtain ⟨x, hx, rfl⟩ := List.mem_map.1 hp
      obtain ⟨hx, hc⟩ := List.mem_filter.1 hx
      rw [Bool.and_eq_true, decide_eq_true_iff, Bool.not_eq_true', decide_eq_false_iff_not] at hc
      obtain ⟨h1, h2, h3, h4⟩ := allM_mem.1 hq
      have hx := List.mem_range.1 hx
      refine ⟨by rw [List.length_append, h1]; rfl, ?_, fun y hy => ?_, fun k h => ?_⟩
      · rw [List.nodup_append]
        exact ⟨h2, by simp, fun a ha b hb e => by rw [List.mem_singleton] at hb; subst hb; subst e; exact hc.2 ha⟩
      · rcases List.mem_append.1 hy with hy | hy
        · exact h3 y hy
        · rw [List.mem_singleton] at hy; subst hy; omega
      · rw [List.length_append, List.length_singleton] at h
        by_cases hk : k < q.length
        · rw [List.getElem_append_left hk]; exact h4 k hk
        · have : k = i := by omega
          subst this
          rw [List.getElem_append_right (by omega)]
          simp only [List.getElem_singleton]
          exact hc.1
    · rintro ⟨h1, h2, h3, h4⟩
      have hne : p ≠ [] := by rintro rfl; simp at h1
      have hs : p.dropLast ++ [p.getLast hne] = p := List.dropLast_concat_getLast hne
      have hl : p.dropLast.length = i := by rw [List.length_dropLast]; omega
      have hr := h3 _ (List.getLast_mem hne)
      have hnd : (p.dropLast ++ [p.getLast hne]).Nodup := by rw [hs]; exact h2
      rw [List.nodup_append] at hnd
      refine ⟨p.dropLast, allM_mem.2 ⟨hl, hnd.1, fun x hx => h3 x (List.dropLast_subset _ hx), fun k h => ?_⟩, List.mem_map.2 ⟨(p.getLast hne).toNat, List.mem_filter.2 ⟨List.mem_range.2 (by omega), ?_⟩, ?_⟩⟩
      · rw [List.getElem_dropLast]; exact h4 k (by rw [List.length_dropLast] at h; omega)
      · rw [Bool.and_eq_true, decide_eq_true_iff, Bool.not_eq_true', decide_eq_false_iff_not, show (((p.getLast hne).toNat : Nat) : Int) = p.getLast hne by omega]
        constructor
        · rw [List.getLast_eq_getElem, h4 _ (by omega)]
          congr 1
          omega
        · intro hm
          exact hnd.2.2 _ hm _ (List.mem_singleton.2 rfl) rfl
      · rw [show (((p.getLast hne).toNat : Nat) : Int) = p.getLast hne by omega]; exact hs
theorem all_perm {n : Nat} {srt : Int → Int} {p : List Int} : p ∈ allM n srt n ↔ PermA n srt p := by
  rw [allM_mem]
  exact ⟨fun ⟨h1, h2, h3, h4⟩ => ⟨h1, h2, h3, h4⟩, fun ⟨h1, h2, h3, h4⟩ => ⟨h1, h2, h3, h4⟩⟩
end Go.Ab
/- Chapter 05's small functions, and their like in chapter 07's reference: sums, sorts, scopes. -/
namespace Go.Ab
open Go Go.Proofs
set_option maxRecDepth 20000
set_option maxHeartbeats 4000000
abbrev SortM := ByteArray × Bool
structure FieldM where
  name : ByteArray
  sorts : List Int
  var : Bool
structure SlV where
  a : Option Addr
  l : Nat
  c : Nat
def encSo (s : SortM) : List PV := [.lit (.string s.1), .lit (.bool s.2)]
def encF (f : FieldM) : List PV := [.lit (.string f.name), ints f.sorts, .lit (.bool f.var)]
structure SpecM where
  sorts : List SortM
  fields : List FieldM
  preds : SlV
  facts : SlV
abbrev slv (s : SlV) : AV := .pv (.lit (.slice s.a s.l s.c))
abbrev spc (s : SpecM) : AV := .agg [.pv (.slice 2 (s.sorts.map encSo)), .pv (.slice 3 (s.fields.map encF)), slv s.preds, slv s.facts]
abbrev scp (at' : List Int) (st : Int) : AV := .agg [.pv (ints at'), litI st]
def SmA (at' : List Int) : Prop := at'.length ≤ 1000 ∧ ∀ x ∈ at', 0 ≤ x ∧ x ≤ 1000
theorem sum_snoc (l : List Int) {k : Nat} (hk : k < l.length) : (l.take (k + 1)).sum = (l.take k).sum + l[k] := by
  rw [take_succ_get hk, List.sum_append]; simp
theorem sum_bound : ∀ (l : List Int), (∀ x ∈ l, 0 ≤ x ∧ x ≤ 1000) → 0 ≤ l.sum ∧ l.sum ≤ 1000 * l.length := by
  intro l
  induction l with
  | nil => intro _; simp
  | cons x l ih =>
    intro h
    have h1 := h x (by simp)
    have h2 := ih fun y hy => h y (by simp [hy])
    simp only [List.sum_cons, List.length_cons]
    omega
theorem SmA.take {at' : List Int} (h : SmA at') (k : Nat) : 0 ≤ (at'.take k).sum ∧ (at'.take k).sum ≤ 1000000 := by
  have h1 := sum_bound (at'.take k) fun x hx => h.2 x (List.mem_of_mem_take hx)
  have h2 := List.length_take_le k at'
  have h3 : (at'.take k).length ≤ 1000 := by have := h.1; simp; omega
  omega
attribute [local irreducible] AW AOps thenD inBlockD AR iterEnds roundEndsN inlEnds noGotoD
def sizesOk (at' : List Int) : Bool := at'.all fun n => decide (1 ≤ n ∧ n ≤ 5)
theorem sizesOk_no {at' : List Int} {k : Nat} (hk : k < at'.length) (h : ¬ (1 ≤ at'[k] ∧ at'[k] ≤ 5)) : sizesOk at' = false := by
  unfold sizesOk; rw [List.all_eq_false]; exact ⟨_, List.getElem_mem hk, by simpa using h⟩
theorem sizesOk_all {at' : List Int} : sizesOk at' = true ↔ ∀ x ∈ at', 1 ≤ x ∧ x ≤ 5 := by
  unfold sizesOk; rw [List.all_eq_true]; simp
theorem sizesOk_sm {at' : List Int} (h : sizesOk at' = true) (hl : at'.length ≤ 1000) : SmA at' := ⟨hl, fun x hx => by have := sizesOk_all.1 h x hx; omega⟩
theorem sizes_step {at' : List Int} {k : Nat} (h : sizesOk (at'.take k) = true) (hk : k < at'.length) (hx : 1 ≤ at'[k] ∧ at'[k] ≤ 5) : sizesOk (at'.take (k + 1)) = true := by
  rw [sizesOk_all] at *
  rw [take_succ_get hk]
  intro x hm
  rcases List.mem_append.1 hm with hm | hm
  · exact h x hm
  · simp at hm; subst hm; exact hx
end Go.Ab
/- Chapter 06's tests for well-formed relations, the program's and the reference's. -/
namespace Go.Ab
open Go Go.Proofs
set_option maxRecDepth 20000
set_option maxHeartbeats 4000000
theorem pow_bound {n : Int} (h : 0 ≤ n ∧ n ≤ 1000) : ∀ k : Nat, k ≤ 3 → 0 ≤ n ^ k ∧ n ^ k ≤ 1000000000 := by
  intro k hk
  have h0 : n ^ 0 = 1 := Int.pow_zero n
  have h1 : n ^ 1 = n := by rw [Int.pow_succ, Int.pow_zero, Int.one_mul]
  have m2 : 0 ≤ n * n ∧ n * n ≤ 1000000 := ⟨Int.mul_nonneg h.1 h.1, by
    have := Int.mul_le_mul_of_nonneg_right h.2 h.1; omega⟩
  have h2 : n ^ 2 = n * n := by rw [Int.pow_succ, h1]
  have h3 : n ^ 3 = n * n * n := by rw [Int.pow_succ, h2]
  have m3 : 0 ≤ n * n * n ∧ n * n * n ≤ 1000000000 := ⟨Int.mul_nonneg m2.1 h.1, by
    have := Int.mul_le_mul_of_nonneg_right m2.2 h.1; omega⟩
  match k, hk with
  | 0, _ => rw [h0]; omega
  | 1, _ => rw [h1]; omega
  | 2, _ => rw [h2]; omega
  | 3, _ => rw [h3]; exact m3
attribute [local irreducible] AW AOps thenD inBlockD AR iterEnds roundEndsN inlEnds noGotoD
def incrB (top : Int) : Int → List Int → Bool
  | _, [] => true
  | last, t :: l => decide (last < t ∧ t < top) && incrB top t l
def relOk (n : Int) (r : RelM) : Bool := decide (0 ≤ n ∧ n ≤ 12 ∧ 1 ≤ r.1 ∧ r.1 ≤ 3) && incrB (n ^ r.1.toNat) (-1) r.2
theorem incrB_at {top : Int} : ∀ {l : List Int} {last : Int}, -1 ≤ last → (incrB top last l = true ↔ ∀ j (h : j < l.length), last < l[j] ∧ 0 ≤ l[j] ∧ l[j] < top ∧ (0 < j → l[j - 1]'(by omega) < l[j])) := by
  intro l
  induction l with
  | nil => intro last _; simp [incrB]
  | cons t l ih =>
    intro last hl
    unfold incrB
    rw [Bool.and_eq_true, decide_eq_true_eq]
    constructor
    · rintro ⟨⟨h1, h2⟩, h3⟩ j hj
      rw [ih (by omega)] at h3
      cases j with
      | zero => simp; omega
      | succ j =>
        simp only [List.length_cons] at hj
        have h4 := h3 j (by omega)
        simp only [List.getElem_cons_succ]
        refine ⟨by omega, h4.2.1, h4.2.2.1, fun _ => ?_⟩
        cases j with
        | zero => simpa using h4.1
        | succ j => simpa using h4.2.2.2 (by omega)
    · intro h
      have h0 := h 0 (by simp)
      simp at h0
      refine ⟨by omega, ?_⟩
      rw [ih (by omega)]
      have hmono : ∀ j (hj : j < l.length), t < l[j] := by
        intro j
        induction j with
        | zero => intro hj; have := (h 1 (by simp; omega)).2.2.2 (by omega); simpa using this
        | succ j ihj =>
          intro hj
          have h5 := ihj (by omega)
          have h6 := (h (j + 2) (by simp; omega)).2.2.2 (by omega)
          simp at h6
          omega
      intro j hj
      have h4 := h (j + 1) (by simp; omega)
      simp only [List.getElem_cons_succ] at h4
      refine ⟨hmono j hj, h4.2.1, h4.2.2.1, fun hj0 => ?_⟩
      have h7 := h4.2.2.2 (by omega)
      obtain ⟨i, rfl⟩ : ∃ i, j = i + 1 := ⟨j - 1, by omega⟩
      simpa using h7
end Go.Ab
/- Chapter 06: difference and inclusion of relations. -/
namespace Go.Ab
open Go Go.Proofs
set_option maxRecDepth 20000
set_option maxHeartbeats 4000000
def cntL (ts : List Int) : List (Int × Int) := ts.foldl (fun l t => setL' l t (getL l t + 1)) []
def diffL (a b : List Int) : List Int := a.filter fun t => decide (t ∉ b)
theorem diffL_snoc {a b : List Int} {k : Nat} (hk : k < a.length) : diffL (a.take (k + 1)) b = diffL (a.take k) b ++ if a[k] ∉ b then [a[k]] else [] := by
  unfold diffL
  rw [take_succ_get hk, List.filter_append]
  by_cases h : a[k] ∈ b
  · simp [h]
  · simp [h]
theorem diffL_len (a b : List Int) (k : Nat) : (diffL (a.take k) b).length ≤ k := by
  unfold diffL
  exact Nat.le_trans (List.length_filter_le _ _) (List.length_take_le k a)
attribute [local irreducible] AW AOps thenD inBlockD AR iterEnds roundEndsN inlEnds noGotoD cntL diffL
def subL (a b : List Int) : Bool := a.all fun t => decide (t ∈ b)
end Go.Ab
/- Chapter 05: all tuples over columns of given sorts, walked: a function that yields, ranged over within itself. -/
namespace Go.Ab
open Go Go.Proofs
set_option maxRecDepth 20000
set_option maxHeartbeats 8000000
def rngI (a : Int) (k : Nat) : List Int := (List.range k).map fun (i : Nat) => a + i
attribute [local irreducible] AW AOps thenD inBlockD AR iterEnds roundEndsN inlEnds noGotoD rngI
end Go.Ab
/- Chapter 05: all tuples over two columns, walked: iterators in iterators. -/
namespace Go.Ab
open Go Go.Proofs
open Nat (reduceAdd reduceSub)
set_option maxRecDepth 20000
set_option maxHeartbeats 8000000
def rks (n : Int) : Int → List (Int × Nat) → List Int
  | p, [] => [p]
  | p, (f, z) :: l => (List.range z).flatMap fun i => rks n (p * n + (f + (i : Nat))) l
def rksTo (n : Int) (p : Int) (f : Int) (i : Nat) (l : List (Int × Nat)) : List Int := (List.range i).flatMap fun i => rks n (p * n + (f + (i : Nat))) l
theorem rks_nil (n p : Int) : rks n p [] = [p] := rfl
def cols (l : List (Int × Nat)) : Nat := (l.map (·.2)).foldr (· * ·) 1
attribute [local irreducible] AW AOps thenD inBlockD AR iterEnds roundEndsN inlEnds noGotoD rks rksTo
end Go.Ab
/- Chapter 05: all tuples over three columns, walked. -/
namespace Go.Ab
open Go Go.Proofs
open Nat (reduceAdd reduceSub)
set_option maxRecDepth 20000
set_option maxHeartbeats 8000000
attribute [local irreducible] AW AOps thenD inBlockD AR iterEnds roundEndsN inlEnds noGotoD rks rksTo
end Go.Ab
/- Chapter 07: a field's columns. -/
namespace Go.Ab
open Go Go.Proofs
set_option maxRecDepth 20000
set_option maxHeartbeats 8000000
attribute [local irreducible] AW AOps thenD inBlockD AR iterEnds roundEndsN inlEnds noGotoD
def insB (k : Nat) (l : List Int) : Bool := l.all fun s => decide (0 ≤ s ∧ s < k)
theorem insB_drop {k : Nat} {l : List Int} {j : Nat} (hj : j < l.length) : insB k (l.drop j) = (decide (0 ≤ l[j] ∧ l[j] < k) && insB k (l.drop (j + 1))) := by
  rw [List.drop_eq_getElem_cons hj]; rfl
def colsB (k : Nat) (l : List Int) : Bool := decide (1 ≤ l.length ∧ l.length ≤ 3) && insB k l
end Go.Ab
/- Chapter 07: model.Valid, walked over whatever contract universe.Full has at the specification's fields. -/
namespace Go.Ab
open Go Go.Proofs
set_option maxRecDepth 20000
set_option maxHeartbeats 16000000
attribute [local irreducible] AW AOps thenD inBlockD AR iterEnds roundEndsN inlEnds noGotoD
theorem incrB_len {top : Int} : ∀ {l : List Int} {last : Int}, last < top → incrB top last l = true → (l.length : Int) < top - last
  | [], last, h, _ => by simp; omega
  | t :: l, last, _, h => by
    unfold incrB at h
    rw [Bool.and_eq_true, decide_eq_true_eq] at h
    have := incrB_len h.1.2 h.2
    simp only [List.length_cons]
    push_cast
    omega
theorem relOk_len {n : Int} {r : RelM} (h : relOk n r = true) : r.2.length ≤ 1728 := by
  unfold relOk at h
  rw [Bool.and_eq_true, decide_eq_true_eq] at h
  obtain ⟨⟨h1, h2, h3, h4⟩, h5⟩ := h
  have hb : n ^ r.1.toNat ≤ 1728 ∧ 0 ≤ n ^ r.1.toNat := by
    obtain ⟨k, rfl⟩ : ∃ k : Nat, n = k := ⟨n.toNat, by omega⟩
    have hk : k ≤ 12 := by omega
    have he : r.1.toNat ≤ 3 := by omega
    generalize r.1.toNat = e at he
    have h6 : k ^ e ≤ 12 ^ 3 := Nat.le_trans (Nat.pow_le_pow_left hk e) (Nat.pow_le_pow_right (by omega) he)
    rw [← Int.natCast_pow]
    constructor
    · exact_mod_cast h6
    · omega
  by_cases h7 : (-1 : Int) < n ^ r.1.toNat
  · have := incrB_len h7 h5
    omega
  · omega
def fieldsB (k : Nat) (l : List FieldM) : Bool := l.all fun f => colsB k f.sorts
theorem fieldsB_drop {k : Nat} {l : List FieldM} {j : Nat} (hj : j < l.length) : fieldsB k (l.drop j) = (colsB k l[j].sorts && fieldsB k (l.drop (j + 1))) := by
  rw [List.drop_eq_getElem_cons hj]; rfl
end Go.Ab
/- Chapter 07's reference: sorts of atoms, columns, well-formed models. -/
namespace Go.Ab
open Go Go.Proofs
open Nat (reduceAdd reduceSub)
set_option maxRecDepth 20000
set_option maxHeartbeats 8000000
def sortF : List Int → Int → Int → Int
  | [], _, _ => -1
  | a :: l, x, i => if x < a then i else sortF l (x - a) (i + 1)
theorem sortF_drop {l : List Int} {x i : Int} {j : Nat} (hj : j < l.length) : sortF (l.drop j) x i = if x < l[j] then i else sortF (l.drop (j + 1)) (x - l[j]) (i + 1) := by
  rw [List.drop_eq_getElem_cons hj]; rfl
attribute [local irreducible] AW AOps thenD inBlockD AR iterEnds roundEndsN inlEnds noGotoD
theorem rSort_fn (at' : List Int) (st x : Int) (h : SmA at') (hx : -9223372036854775808 ≤ x ∧ x ≤ 9223372036854775807) : Fn Tryz.prog 120 [scp at' st, litI x] (litI (sortF at' x 0)) := by
  have hle := h.1
  refine Fn.enter (n := 28) Tryz.func120 rfl rfl rfl rfl rfl (by decide) fun g hro_ hwt_ => ?_; (try refine nz ?_)
  (refine Q64 ?_; refine Q135 ?_)
  (refine nz ?_; apply AW.loopR [2] [0] (fun s : Nat × Int => ([(5, litI s.1), (1, litI s.2)] : List (Nat × AV))) (fun s : Nat × Int => ([] : List (Nat × Option Ob))) (fun s : Nat × Int => s.1 ≤ at'.length ∧ -9223372036854775808 ≤ s.2 ∧ s.2 ≤ 9223372036854775807 ∧ sortF at' x 0 = sortF (at'.drop s.1) s.2 s.1) (fun s : Nat × Int => at'.length - s.1) ((0, x)); (conv => lhs; simp only [Nf.lpR, Nf.all, Nat.reduceBEq, reduceAdd, reduceSub]); (all_goals skip))
  · exact ⟨Nat.zero_le _, hx.1, hx.2, rfl⟩
  · exact Q104
  rintro ⟨j, y⟩ ⟨hj, h1, h2, he⟩
  simp only at hj h1 h2 he ⊢
  by_cases hlt : j < at'.length
  · have hz := h.2 _ (List.getElem_mem hlt)
    rw [sortF_drop hlt] at he
    by_cases hc : y < at'[j]
    · rw [if_pos hc] at he
      (refine Q308 ?_; refine Q329 ?_; (focus ((with_reducible apply AOps.index_map); (iterate 7 exact rfl); rotate_left; omega)); refine Q301 ?_; refine Q334 ?_; refine Q57 ?_; refine Q27 ?_)
      (apply ends_ret; (exact Res.one (.tmp rfl rfl)); (refine Le.litI ?_; (exact he.symm)))
    · rw [if_neg hc] at he
      (refine Q308 ?_; refine Q329 ?_; (focus ((with_reducible apply AOps.index_map); (iterate 7 exact rfl); rotate_left; omega)); refine Q301 ?_; refine Q154 ?_; refine Q179 ?_; refine Q329 ?_; (focus ((with_reducible apply AOps.index_map); (iterate 7 exact rfl); rotate_left; omega)); refine zr ?_; refine AOps.sub rfl rfl rfl rfl rfl (by omega) ?_; refine Q188 ?_)
      exact Q153
  · rw [List.drop_eq_nil_of_le (by omega)] at he
    (refine Q128 ?_; refine zd ?_; refine Q189 ?_)
    (apply ends_ret; (exact Res.one (.tmp rfl rfl)); (refine Le.litI ?_; (exact he.symm)))
def colsF (at' : List Int) (n : Int) : List Int → Int → Bool
  | [], _ => true
  | s :: ss, r => decide (sortF at' (r % n) 0 = s) && colsF at' n ss (r / n)
end Go.Ab
/- Chapter 05 and 07: all tuples over columns; the two tests for a well-formed model are one. -/
namespace Go.Ab
open Go Go.Proofs
set_option maxRecDepth 20000
set_option maxHeartbeats 2000000
def colL (at' : List Int) (l : List Int) : List (Int × Nat) := l.map fun s => ((at'.take s.toNat).sum, (at'.getD s.toNat 0).toNat)
def fullR (at' : List Int) (l : List Int) : RelM := ((l.length : Int), rks at'.sum 0 (colL at' l))
theorem insB_at {k : Nat} {l : List Int} (h : insB k l = true) : ∀ s ∈ l, 0 ≤ s ∧ s < k := by
  unfold insB at h
  rw [List.all_eq_true] at h
  intro s hs
  simpa using h s hs
theorem getD_at {at' : List Int} {k : Nat} (h : k < at'.length) : at'.getD k 0 = at'[k] := by rw [List.getD_eq_getElem?_getD, List.getElem?_eq_getElem h]; rfl
theorem sum_nn : ∀ {l : List Int}, (∀ x ∈ l, 0 ≤ x) → 0 ≤ l.sum
  | [], _ => by simp
  | a :: l, h => by
    have := sum_nn (l := l) fun x hx => h x (by simp [hx])
    have := h a (by simp)
    simp; omega
theorem sortF_ge {l : List Int} : ∀ {x i : Int}, 0 ≤ i → sortF l x i = -1 ∨ i ≤ sortF l x i := by
  induction l with
  | nil => intro x i _; exact .inl rfl
  | cons a l ih =>
    intro x i hi
    unfold sortF
    split
    · right; omega
    · rcases ih (x := x - a) (i := i + 1) (by omega) with h | h
      · exact .inl h
      · right; omega
theorem sortF_iff {l : List Int} : ∀ {x i : Int} {k : Nat}, (∀ y ∈ l, 0 ≤ y) → 0 ≤ x → 0 ≤ i → k < l.length → (sortF l x i = i + k ↔ (l.take k).sum ≤ x ∧ x < (l.take k).sum + l.getD k 0) := by
  induction l with
  | nil => intro x i k _ _ _ hk; simp at hk
  | cons a l ih =>
    intro x i k hp hx hi hk
    unfold sortF
    have ha := hp a (by simp)
    have hpl : ∀ y ∈ l, 0 ≤ y := fun y hy => hp y (by simp [hy])
    cases k with
    | zero =>
      simp only [List.take_zero, List.sum_nil, List.getD_cons_zero]
      by_cases hc : x < a
      · rw [if_pos hc]; simp; omega
      · rw [if_neg hc]
        constructor
        · intro h
          rcases sortF_ge (l := l) (x := x - a) (i := i + 1) (by omega) with h2 | h2 <;> omega
        · omega
    | succ k =>
      simp only [List.take_succ_cons, List.sum_cons, List.getD_cons_succ]
      have hk' : k < l.length := by simpa using hk
      by_cases hc : x < a
      · rw [if_pos hc]
        have h2 : 0 ≤ (l.take k).sum := sum_nn fun y hy => hpl y (List.mem_of_mem_take hy)
        constructor
        · intro h; push_cast at h; omega
        · omega
      · rw [if_neg hc]
        have := ih (x := x - a) (i := i + 1) (k := k) hpl (by omega) (by omega) hk'
        push_cast
        rw [show i + ((k : Int) + 1) = i + 1 + k by omega, this]
        omega
theorem rks_snoc (n : Int) : ∀ (l : List (Int × Nat)) (p f : Int) (z : Nat) (t : Int), t ∈ rks n p (l ++ [(f, z)]) ↔ ∃ q ∈ rks n p l, ∃ i : Nat, i < z ∧ t = q * n + (f + i)
  | [], p, f, z, t => by
    simp only [List.nil_append, rks, List.mem_flatMap, List.mem_range, List.mem_singleton, exists_eq_left]
  | (f', z') :: l, p, f, z, t => by
    simp only [List.cons_append, rks, List.mem_flatMap, List.mem_range]
    constructor
    · rintro ⟨i, hi, h⟩
      obtain ⟨q, hq, r⟩ := (rks_snoc n l _ f z t).1 h
      exact ⟨q, ⟨i, hi, hq⟩, r⟩
    · rintro ⟨q, ⟨i, hi, hq⟩, r⟩
      exact ⟨i, hi, (rks_snoc n l _ f z t).2 ⟨q, hq, r⟩⟩
theorem take_le {at' : List Int} (hp : ∀ y ∈ at', 0 ≤ y) {k : Nat} (hk : k < at'.length) : 0 ≤ (at'.take k).sum ∧ (at'.take k).sum + at'.getD k 0 ≤ at'.sum := by
  refine ⟨sum_nn fun y hy => hp y (List.mem_of_mem_take hy), ?_⟩
  have e : at'.sum = (at'.take k).sum + (at'.drop k).sum := by rw [← List.sum_append, List.take_append_drop]
  have h2 : (at'.drop k).sum = at'[k] + (at'.drop (k + 1)).sum := by rw [List.drop_eq_getElem_cons hk, List.sum_cons]
  have h3 : 0 ≤ (at'.drop (k + 1)).sum := sum_nn fun y hy => hp y (List.mem_of_mem_drop hy)
  rw [getD_at hk]
  omega
theorem mem_full {at' : List Int} (hp : ∀ y ∈ at', 0 ≤ y) : ∀ (l : List Int), (∀ s ∈ l, 0 ≤ s ∧ s < at'.length) → ∀ t : Int, (t ∈ rks at'.sum 0 (colL at' l) ↔ 0 ≤ t ∧ colsF at' at'.sum l.reverse t = true ∧ t < at'.sum ^ l.length) := by
  intro l
  generalize hm : l.length = m
  induction m generalizing l with
  | zero =>
    intro _ t
    obtain rfl := List.eq_nil_of_length_eq_zero hm
    simp [colL, rks, colsF]
    omega
  | succ m ih =>
    intro hs t
    obtain ⟨l', s, rfl⟩ : ∃ l' s, l = l' ++ [s] := ⟨l.dropLast, l.getLast (by intro e; subst e; simp at hm), (List.dropLast_concat_getLast _).symm⟩
    have hm' : l'.length = m := by simpa using hm
    have hs' := hs s (by simp)
    have hsl : ∀ x ∈ l', 0 ≤ x ∧ x < at'.length := fun x hx => hs x (by simp [hx])
    obtain ⟨k, rfl⟩ : ∃ k : Nat, s = (k : Int) := ⟨s.toNat, by omega⟩
    have hk : k < at'.length := by omega
    have ht1 := take_le hp hk
    have e1 : colL at' (l' ++ [(k : Int)]) = colL at' l' ++ [((at'.take k).sum, (at'.getD k 0).toNat)] := by simp [colL]
    rw [e1, rks_snoc, List.reverse_append]
    show _ ↔ 0 ≤ t ∧ colsF at' at'.sum ((k : Int) :: l'.reverse) t = true ∧ _
    unfold colsF
    rw [Bool.and_eq_true, decide_eq_true_eq]
    have ih := ih l' hm' hsl
    have hzz : 0 ≤ at'.getD k 0 := by rw [getD_at hk]; exact hp _ (List.getElem_mem hk)
    by_cases hn : at'.sum = 0
    · constructor
      · rintro ⟨q, _, i, hi, _⟩; omega
      · rintro ⟨h0, _, h⟩
        rw [hn, Int.zero_pow (by omega)] at h
        omega
    have hpos : 0 < at'.sum := by omega
    have hiff := sortF_iff (l := at') (x := t % at'.sum) (i := 0) (k := k) hp (Int.emod_nonneg _ (by omega)) (by omega) hk
    rw [Int.zero_add] at hiff
    rw [hiff]
    generalize (at'.take k).sum = f at ht1 ⊢
    generalize at'.getD k 0 = z at ht1 hzz ⊢
    generalize at'.sum = n at *
    have hpw : n ^ (m + 1) = n ^ m * n := Int.pow_succ _ _
    constructor
    · rintro ⟨q, hq, i, hi, rfl⟩
      obtain ⟨q0, q1, q2⟩ := (ih q).1 hq
      have hu := (Int.ediv_emod_unique (a := q * n + (f + i)) (b := n) (r := f + i) (q := q) hpos).2 ⟨by rw [Int.mul_comm n q]; omega, by omega, by omega⟩
      rw [hu.1, hu.2]
      have h1 : 0 ≤ q * n := Int.mul_nonneg q0 (by omega)
      have h2 : (q + 1) * n ≤ n ^ m * n := Int.mul_le_mul_of_nonneg_right (by omega) (by omega)
      rw [Int.add_mul, Int.one_mul] at h2
      exact ⟨by omega, ⟨⟨by omega, by omega⟩, q1⟩, by rw [hpw]; omega⟩
    · rintro ⟨h0, ⟨⟨h1, h2⟩, h3⟩, h4⟩
      rw [hpw] at h4
      refine ⟨t / n, (ih _).2 ⟨Int.ediv_nonneg h0 (by omega), h3, Int.ediv_lt_of_lt_mul hpos h4⟩, (t % n - f).toNat, by omega, ?_⟩
      have := Int.mul_ediv_add_emod t n
      rw [Int.mul_comm] at this
      omega
end Go.Ab
/- Go's slices.Grow of nothing, slices.Concat; the union of relations. -/
namespace Go.Ab
open Go Go.Proofs
set_option maxRecDepth 20000
set_option maxHeartbeats 4000000
attribute [local irreducible] AW AOps thenD inBlockD AR iterEnds roundEndsN inlEnds noGotoD canon sortL compL compZ
end Go.Ab
/- Chapter 06's reference: rising lists, searched and added to. -/
namespace Go.Ab
open Go Go.Proofs
open Nat (reduceAdd reduceSub)
set_option maxRecDepth 20000
set_option maxHeartbeats 4000000
theorem inc_at {l : List Int} (h : Inc l) {i j : Nat} (hi : i < j) (hj : j < l.length) : l[i] < l[j] := List.pairwise_iff_getElem.1 h i j (by omega) hj hi
theorem ins_canon {l : List Int} (h : Inc l) {x : Int} {p : Nat} (h1 : ∀ j (hj : j < l.length), j < p → l[j] < x) (h2 : ∀ j (hj : j < l.length), p ≤ j → x < l[j]) : l.take p ++ [x] ++ l.drop p = canon (l ++ [x]) := by
  have m1 : ∀ y ∈ l.take p, y < x := by
    intro y hy
    obtain ⟨j, hj, rfl⟩ := List.getElem_of_mem hy
    rw [List.length_take] at hj
    rw [List.getElem_take]
    exact h1 j (by omega) (by omega)
  have m2 : ∀ y ∈ l.drop p, x < y := by
    intro y hy
    obtain ⟨j, hj, rfl⟩ := List.getElem_of_mem hy
    rw [List.length_drop] at hj
    rw [List.getElem_drop]
    exact h2 (p + j) (by omega) (by omega)
  refine inc_ext ?_ (canon_inc _) fun y => ?_
  · show List.Pairwise _ _
    rw [List.pairwise_append]
    refine ⟨?_, h.sublist (List.drop_sublist p l), fun a ha b hb => ?_⟩
    · rw [List.pairwise_append]
      exact ⟨h.sublist (List.take_sublist p l), by simp, fun a ha b hb => by simp at hb; subst hb; exact m1 a ha⟩
    · have := m2 b hb
      rcases List.mem_append.1 ha with ha | ha
      · have := m1 a ha; omega
      · simp at ha; subst ha; exact this
  · rw [canon_mem]
    have e : y ∈ l ↔ y ∈ l.take p ∨ y ∈ l.drop p := by rw [← List.mem_append, List.take_append_drop]
    simp only [List.mem_append, e]
    constructor
    · rintro ((h | h) | h)
      · exact .inl (.inl h)
      · exact .inr h
      · exact .inl (.inr h)
    · rintro ((h | h) | h)
      · exact .inl (.inl h)
      · exact .inr h
      · exact .inl (.inr h)
theorem mem_canon_self {l : List Int} (h : Inc l) {x : Int} (hx : x ∈ l) : canon (l ++ [x]) = l := inc_ext (canon_inc _) h fun y => by
  rw [canon_mem, List.mem_append, List.mem_singleton]
  exact ⟨fun h' => h'.elim id (fun e => e ▸ hx), .inl⟩
attribute [local irreducible] AW AOps thenD inBlockD AR iterEnds roundEndsN inlEnds noGotoD canon
theorem rAdd_fn (l : List Int) (x : Int) (hl : l.length ≤ 1000000) (h : Inc l) : Fn Tryz.prog 137 [.pv (ints l), litI x] (.pv (ints (canon (l ++ [x])))) := by
  refine Fn.enter (n := 50) Tryz.func137 rfl rfl rfl rfl rfl (by decide) fun g hro_ hwt_ => ?_; (try refine nz ?_)
  (refine Q335 ?_; refine zn ?_; refine Q5 ?_; refine zo ?_; refine AW.block ?_)
  (refine nz ?_; apply AW.loopR [4, 0, 1] [] (fun s : Nat => ([(5, litI s)] : List (Nat × AV))) (fun s : Nat => ([] : List (Nat × Option Ob))) (fun s : Nat => s ≤ l.length ∧ (∀ j (h : j < l.length), s ≤ j → x ≤ l[j])) (fun s : Nat => s) (l.length); (conv => lhs; simp only [Nf.lpR, Nf.all, Nat.reduceBEq, reduceAdd, reduceSub]); (all_goals skip))
  · exact ⟨Nat.le_refl _, fun j h h2 => by omega⟩
  · exact weak rfl (by (refine ⟨.eq rfl rfl, ?_⟩; (iterate 3 refine ⟨.eq rfl rfl, ?_⟩); exact trivial)) (by (exact trivial)) rfl
  rintro p ⟨h1, h2⟩
  have fin : (p = 0 ∨ ∃ h : p - 1 < l.length, l[p - 1] < x) → ∀ j (hj : j < l.length), j < p → l[j] < x := by
    intro h0 j hj hjp
    rcases h0 with h0 | ⟨h0, h3⟩
    · omega
    · by_cases e : j = p - 1
      · subst e; exact h3
      · have := inc_at h (i := j) (j := p - 1) (by omega) h0
        omega
  have rest : (p = 0 ∨ ∃ h : p - 1 < l.length, l[p - 1] < x) → ¬ (∃ h : p < l.length, l[p] = x) → l.take p ++ [x] ++ l.drop p = canon (l ++ [x]) := by
    intro h0 hne
    refine ins_canon h (fin h0) fun j hj hjp => ?_
    have h3 := h2 j hj hjp
    by_cases e : l[j] = x
    · exfalso
      apply hne
      refine ⟨by omega, ?_⟩
      have h4 := h2 p (by omega) (Nat.le_refl _)
      by_cases e2 : p = j
      · subst e2; exact e
      · have := inc_at h (i := p) (j := j) (by omega) hj
        omega
    · omega
  have tail : (p = 0 ∨ ∃ h : p - 1 < l.length, l[p - 1] < x) → True := fun _ => trivial
  by_cases hp0 : 0 < p
  · have hpi : ((p : Int) - 1).toNat = p - 1 := by omega
    have hpl : ((p : Int) - 1).toNat < l.length := by omega
    by_cases hq : x ≤ l[((p : Int) - 1).toNat]
    · (refine Q293 ?_; refine zm ?_; refine Q152 ?_; (focus ((with_reducible apply AOps.index_mapI); (iterate 7 exact rfl); omega; rotate_left; (first | omega | exact Nat.zero_lt_one | exact (by simp)))); refine Q159 ?_; refine zm ?_; refine zt ?_; refine AOps.geq rfl rfl rfl rfl rfl ?_; refine zT ?_; refine zd ?_; refine zc ?_; refine AW.skip ?_; refine thenD_n ?_; refine AW.block ?_; refine Q179 ?_; refine Q190 ?_; refine za ?_; refine AOps.nil ?_; refine inBlockD_n ?_; refine thenD_n ?_)
      exact ⟨p - 1, ⟨by omega, fun j hj hjp => by
        by_cases e : j = p - 1
        · subst e; simpa only [hpi] using hq
        · exact h2 j hj (by omega)⟩, by omega, weak rfl (by (refine ⟨.intE (by first | with_reducible rfl | (first | rfl | omega)), ?_⟩; refine ⟨.eq rfl rfl, ?_⟩; refine ⟨.pvE (by first | with_reducible rfl | (first | rfl | omega)), ?_⟩; refine ⟨.intE (by first | with_reducible rfl | (first | rfl | omega)), ?_⟩; exact trivial)) (by (exact trivial)) rfl⟩
    · have hq2 : ¬ x ≤ l[p - 1] := by simpa only [hpi] using hq
      have hq' : p = 0 ∨ ∃ h : p - 1 < l.length, l[p - 1] < x := .inr ⟨by omega, by omega⟩
      by_cases hn : p < l.length
      · by_cases he : l[p] = x
        · have hc : canon (l ++ [x]) = l := mem_canon_self h (by rw [← he]; exact List.getElem_mem hn)
          rw [hc]
          (refine Q293 ?_; refine zm ?_; refine Q152 ?_; (focus ((with_reducible apply AOps.index_mapI); (iterate 7 exact rfl); omega; rotate_left; (first | omega | exact Nat.zero_lt_one | exact (by simp)))); refine Q262 ?_; refine Q43 ?_; refine zm ?_; refine zt ?_; (focus ((with_reducible apply AOps.index_map); (iterate 7 exact rfl); rotate_left; omega)); refine Q159 ?_; refine zm ?_; refine Q315 ?_; refine Q334 ?_; refine Q57 ?_)
          all_goals (apply ends_ret; (exact Res.one (.tmp rfl rfl)); (refine Le.pvE ?_; (rfl)))
        · have hr := rest hq' (by rintro ⟨_, e⟩; exact he e)
          (refine Q293 ?_; refine zm ?_; refine Q152 ?_; (focus ((with_reducible apply AOps.index_mapI); (iterate 7 exact rfl); omega; rotate_left; (first | omega | exact Nat.zero_lt_one | exact (by simp)))); refine Q262 ?_; refine Q43 ?_; refine zm ?_; refine zt ?_; (focus ((with_reducible apply AOps.index_map); (iterate 7 exact rfl); rotate_left; omega)); refine Q159 ?_; refine zm ?_; refine Q315 ?_; refine Q184 ?_; refine Q229 ?_; (with_reducible apply AOps.appendS); exact rfl; (first | exact .pv rfl | exact .own rfl | exact .nil rfl); (iterate 9 exact rfl); (first | omega | (simp only [List.length_map, List.length_append, List.length_cons, List.length_nil, List.length_drop, List.length_take, List.length_set, chunk_len]; omega)); refine Q324 ?_; refine zm ?_; refine Q50 ?_; (with_reducible apply AOps.appendS); exact rfl; (first | exact .pv rfl | exact .own rfl | exact .nil rfl); (iterate 9 exact rfl); (first | omega | (simp only [List.length_map, List.length_append, List.length_cons, List.length_nil, List.length_drop, List.length_take, List.length_set, chunk_len]; omega)); refine nz ?_; refine Q217 ?_; (with_reducible apply AOps.appendS); exact rfl; (first | exact .pv rfl | exact .own rfl | exact .nil rfl); (iterate 9 exact rfl); (first | omega | (simp only [List.length_map, List.length_append, List.length_cons, List.length_nil, List.length_drop, List.length_take, List.length_set, chunk_len]; omega)); refine Q324 ?_; refine Q294 ?_)
          all_goals (apply ends_ret; (exact Res.one (.tmp rfl rfl)); (refine Le.ownE ?_; (first | rfl | (rw [← hr]; simp [encI]))))
      · have hr := rest hq' (by rintro ⟨h5, _⟩; omega)
        (refine Q293 ?_; refine zm ?_; refine Q152 ?_; (focus ((with_reducible apply AOps.index_mapI); (iterate 7 exact rfl); omega; rotate_left; (first | omega | exact Nat.zero_lt_one | exact (by simp)))); refine Q262 ?_; refine zm ?_; (iterate 6 refine AOps.guardTn rfl rfl rfl rfl rfl rfl (by first | omega | decide) ?_); refine zF ?_; refine Q45 ?_; refine Q157 ?_; refine Q229 ?_; (with_reducible apply AOps.appendS); exact rfl; (first | exact .pv rfl | exact .own rfl | exact .nil rfl); (iterate 9 exact rfl); (first | omega | (simp only [List.length_map, List.length_append, List.length_cons, List.length_nil, List.length_drop, List.length_take, List.length_set, chunk_len]; omega)); refine Q324 ?_; refine zm ?_; refine Q50 ?_; (with_reducible apply AOps.appendS); exact rfl; (first | exact .pv rfl | exact .own rfl | exact .nil rfl); (iterate 9 exact rfl); (first | omega | (simp only [List.length_map, List.length_append, List.length_cons, List.length_nil, List.length_drop, List.length_take, List.length_set, chunk_len]; omega)); refine nz ?_; refine Q217 ?_; (with_reducible apply AOps.appendS); exact rfl; (first | exact .pv rfl | exact .own rfl | exact .nil rfl); (iterate 9 exact rfl); (first | omega | (simp only [List.length_map, List.length_append, List.length_cons, List.length_nil, List.length_drop, List.length_take, List.length_set, chunk_len]; omega)); refine Q324 ?_; refine Q294 ?_)
        all_goals (apply ends_ret; (exact Res.one (.tmp rfl rfl)); (refine Le.ownE ?_; (first | rfl | (rw [← hr]; simp [encI]))))
  · have hq' : p = 0 ∨ ∃ h : p - 1 < l.length, l[p - 1] < x := .inl (by omega)
    by_cases hn : p < l.length
    · by_cases he : l[p] = x
      · have hc : canon (l ++ [x]) = l := mem_canon_self h (by rw [← he]; exact List.getElem_mem hn)
        rw [hc]
        (refine Q178 ?_; refine Q43 ?_; refine zm ?_; refine zt ?_; (focus ((with_reducible apply AOps.index_map); (iterate 7 exact rfl); rotate_left; omega)); refine Q159 ?_; refine zm ?_; refine Q315 ?_; refine Q334 ?_; refine Q57 ?_)
        all_goals (apply ends_ret; (exact Res.one (.tmp rfl rfl)); (refine Le.pvE ?_; (rfl)))
      · have hr := rest hq' (by rintro ⟨_, e⟩; exact he e)
        (refine Q178 ?_; refine Q43 ?_; refine zm ?_; refine zt ?_; (focus ((with_reducible apply AOps.index_map); (iterate 7 exact rfl); rotate_left; omega)); refine Q159 ?_; refine zm ?_; refine Q315 ?_; refine Q184 ?_; refine Q229 ?_; (with_reducible apply AOps.appendS); exact rfl; (first | exact .pv rfl | exact .own rfl | exact .nil rfl); (iterate 9 exact rfl); (first | omega | (simp only [List.length_map, List.length_append, List.length_cons, List.length_nil, List.length_drop, List.length_take, List.length_set, chunk_len]; omega)); refine Q324 ?_; refine zm ?_; refine Q50 ?_; (with_reducible apply AOps.appendS); exact rfl; (first | exact .pv rfl | exact .own rfl | exact .nil rfl); (iterate 9 exact rfl); (first | omega | (simp only [List.length_map, List.length_append, List.length_cons, List.length_nil, List.length_drop, List.length_take, List.length_set, chunk_len]; omega)); refine nz ?_; refine Q217 ?_; (with_reducible apply AOps.appendS); exact rfl; (first | exact .pv rfl | exact .own rfl | exact .nil rfl); (iterate 9 exact rfl); (first | omega | (simp only [List.length_map, List.length_append, List.length_cons, List.length_nil, List.length_drop, List.length_take, List.length_set, chunk_len]; omega)); refine Q324 ?_; refine Q294 ?_)
        all_goals (apply ends_ret; (exact Res.one (.tmp rfl rfl)); (refine Le.ownE ?_; (first | rfl | (rw [← hr]; simp [encI]))))
    · have hr := rest hq' (by rintro ⟨h5, _⟩; omega)
      (refine Q178 ?_; refine zm ?_; (iterate 6 refine AOps.guardTn rfl rfl rfl rfl rfl rfl (by first | omega | decide) ?_); refine zF ?_; refine Q45 ?_; refine Q157 ?_; refine Q229 ?_; (with_reducible apply AOps.appendS); exact rfl; (first | exact .pv rfl | exact .own rfl | exact .nil rfl); (iterate 9 exact rfl); (first | omega | (simp only [List.length_map, List.length_append, List.length_cons, List.length_nil, List.length_drop, List.length_take, List.length_set, chunk_len]; omega)); refine Q324 ?_; refine zm ?_; refine Q50 ?_; (with_reducible apply AOps.appendS); exact rfl; (first | exact .pv rfl | exact .own rfl | exact .nil rfl); (iterate 9 exact rfl); (first | omega | (simp only [List.length_map, List.length_append, List.length_cons, List.length_nil, List.length_drop, List.length_take, List.length_set, chunk_len]; omega)); refine nz ?_; refine Q217 ?_; (with_reducible apply AOps.appendS); exact rfl; (first | exact .pv rfl | exact .own rfl | exact .nil rfl); (iterate 9 exact rfl); (first | omega | (simp only [List.length_map, List.length_append, List.length_cons, List.length_nil, List.length_drop, List.length_take, List.length_set, chunk_len]; omega)); refine Q324 ?_; refine Q294 ?_)
      all_goals (apply ends_ret; (exact Res.one (.tmp rfl rfl)); (refine Le.ownE ?_; (first | rfl | (rw [← hr]; simp [encI]))))
end Go.Ab
/- Chapter 06: the intersection. -/
namespace Go.Ab
open Go Go.Proofs
set_option maxRecDepth 20000
set_option maxHeartbeats 4000000
def interL (a b : List Int) : List Int := a.filter fun t => decide (t ∈ b)
attribute [local irreducible] AW AOps thenD inBlockD AR iterEnds roundEndsN inlEnds noGotoD cntL interL
end Go.Ab
/- Chapter 06's reference: a list put in order, unions, meets, differences, inclusion. -/
namespace Go.Ab
open Go Go.Proofs
open Nat (reduceAdd reduceSub)
set_option maxRecDepth 20000
set_option maxHeartbeats 4000000
theorem canon_nil : canon [] = [] := canon_id (by simp)
theorem canon_snoc {ts : List Int} {i : Nat} (hi : i < ts.length) : canon (canon (ts.take i) ++ [ts[i]]) = canon (ts.take (i + 1)) := by
  rw [take_succ_get hi]
  exact canon_congr fun x => by rw [List.mem_append, List.mem_append, canon_mem]
attribute [local irreducible] AW AOps thenD inBlockD AR iterEnds roundEndsN inlEnds noGotoD canon diffL interL
theorem rOf_fn (ar : Int) (ts : List Int) (ht : ts.length ≤ 1000000) : Fn Tryz.prog 96 [litI ar, .pv (ints ts)] (relA (ar, canon ts)) := by
  refine Fn.enter (n := 24) Tryz.func96 rfl rfl rfl rfl rfl (by decide) fun g hro_ hwt_ => ?_; (try refine nz ?_)
  (refine zq ?_; refine Q9 ?_; refine Q326 ?_; refine zm ?_; refine Q248 ?_; refine nz ?_; refine Q120 ?_; refine Q46 ?_; refine Q75 ?_)
  (refine nz ?_; apply AW.loopR [5, 4, 1] [0] (fun i : Nat => ([(6, litI i)] : List (Nat × AV))) (fun i : Nat => ([(1, some (.box [litI ar, .pv (ints (canon (ts.take i)))]))] : List (Nat × Option Ob))) (fun i : Nat => i ≤ ts.length) (fun i : Nat => ts.length - i) (0); (conv => lhs; simp only [Nf.lpR, Nf.all, Nat.reduceBEq, reduceAdd, reduceSub]); (all_goals skip))
  · exact Nat.zero_le _
  · exact weak rfl (by (refine ⟨.intE (by first | with_reducible rfl | (first | rfl | (rw [List.take_zero, canon_nil]; rfl))), ?_⟩; (iterate 2 refine ⟨.eq rfl rfl, ?_⟩); refine ⟨.pvE (by first | with_reducible rfl | (first | rfl | (rw [List.take_zero, canon_nil]; rfl))), ?_⟩; exact trivial)) (by (refine ⟨.box _ rfl ?_, ?_⟩; refine ⟨.intE (by first | with_reducible rfl | (first | rfl | (rw [List.take_zero, canon_nil]; rfl))), ?_⟩; refine ⟨.nilpvE (by first | rfl | (rw [List.take_zero, canon_nil]; rfl)), ?_⟩; exact trivial; refine ⟨.box _ rfl ?_, ?_⟩; refine ⟨.intE (by first | with_reducible rfl | (first | rfl | (rw [List.take_zero, canon_nil]; rfl))), ?_⟩; refine ⟨.eq rfl rfl, ?_⟩; (iterate 2 exact trivial))) rfl
  rintro i hi
  have hcl := canon_len (ts.take i)
  have htl := List.length_take_le i ts
  by_cases hlt : i < ts.length
  · have hs := canon_snoc hlt
    have had := rAdd_fn (canon (ts.take i)) ts[i] (by omega) (canon_inc _)
    rw [hs] at had
    (refine Q10 ?_; refine Q3 ?_; refine AW.regionM [0, 1, 2, 3, 4, 5] [8] rfl (by assumption) (by kernel_rfl) (by kernel_rfl) rfl ?_; show AOps .held _ _ _ [_, _, _, _, _, _] _ _; refine Q39 ?_; (iterate 2 refine zm ?_); (focus ((with_reducible apply AOps.index_map); (iterate 7 exact rfl); rotate_left; omega)); refine zr ?_; refine Q7 ?_; intro k_ hk_; refine nz ?_; refine AR.step1M (i := 6) rfl (by kernel_rfl) rfl ?_; intro g_ hgro_ hw_; refine zP (had) ?_; refine Q7 ?_; refine AR.readsM [7] (by kernel_rfl) (by kernel_rfl) (by kernel_rfl) (by kernel_rfl) ?_; intro g_ hgro_; show AOps .held _ _ _ [_] _ _; refine Q209 ?_; intro k_ hk_; refine nz ?_; refine Q123 ?_; intro g_ hgro_ hwt2_; refine Q35 ?_; refine Q121 ?_; refine Q143 ?_)
    exact ⟨i + 1, by omega, by omega, weak rfl (by (refine ⟨.eq rfl rfl, ?_⟩; (iterate 3 refine ⟨.eq rfl rfl, ?_⟩); exact trivial)) (by (refine ⟨.box _ rfl ?_, ?_⟩; (iterate 2 refine ⟨.eq rfl rfl, ?_⟩); exact trivial; refine ⟨.box _ rfl ?_, ?_⟩; (iterate 2 refine ⟨.eq rfl rfl, ?_⟩); (iterate 2 exact trivial))) rfl⟩
  · rw [take_all (l := ts) (by omega)]
    (refine Q10 ?_; refine Q44 ?_; refine Q41 ?_; refine Q62 ?_; refine zd ?_; refine AW.ret ?_)
    (apply ends_ret; (exact Res.one (.cell rfl rfl rfl rfl)); (refine Le.aggL ?_; refine LeL.cons ?_ ?_; (with_reducible exact Le.pv _); refine LeL.cons ?_ ?_; (with_reducible exact Le.pv _); exact LeL.nil))
end Go.Ab
/- Chapter 05's reference: first atoms, sorts, ranks, tuples. -/
namespace Go.Ab
open Go Go.Proofs
open Nat (reduceAdd reduceSub)
set_option maxRecDepth 20000
set_option maxHeartbeats 4000000
theorem sortF_none {l : List Int} : ∀ {x i : Int}, 0 ≤ i → (∀ k : Nat, k < l.length → sortF l x i ≠ i + k) → sortF l x i = -1 := by
  induction l with
  | nil => intro x i _ _; rfl
  | cons a l ih =>
    intro x i hi h
    unfold sortF at h ⊢
    by_cases hc : x < a
    · exact absurd (by rw [if_pos hc]; simp) (h 0 (by simp))
    · rw [if_neg hc]
      refine ih (by omega) fun k hk e => ?_
      have := h (k + 1) (by simp; omega)
      rw [if_neg hc, e] at this
      exact this (by push_cast; omega)
theorem sortF_at {l : List Int} (hp : ∀ y ∈ l, 0 ≤ y) {x : Int} (hx : 0 ≤ x) {k : Nat} (hk : k < l.length) : sortF l x 0 = k ↔ (l.take k).sum ≤ x ∧ x < (l.take (k + 1)).sum := by
  have := sortF_iff (l := l) (x := x) (i := 0) (k := k) hp hx (by omega) hk
  rw [Int.zero_add, getD_at hk] at this
  rw [this, sum_snoc l hk]
def digL (n : Int) : Nat → Int → List Int
  | 0, _ => []
  | k + 1, r => digL n k (r / n) ++ [r % n]
theorem digL_len (n : Int) : ∀ (k : Nat) (r : Int), (digL n k r).length = k
  | 0, _ => rfl
  | k + 1, r => by simp [digL, digL_len n k]
attribute [local irreducible] AW AOps thenD inBlockD AR iterEnds roundEndsN inlEnds noGotoD
theorem r5First_fn (at' : List Int) (st : Int) (s : Nat) (h : SmA at') (hs : s ≤ at'.length) : Fn Tryz.prog 159 [scp at' st, litI s] (litI (at'.take s).sum) := by
  have hb := h.take
  have hle := h.1
  refine Fn.enter (n := 27) Tryz.func159 rfl rfl rfl rfl rfl (by decide) fun g hro_ hwt_ => ?_; (try refine nz ?_)
  (refine Q64 ?_; refine Q51 ?_; refine Q135 ?_)
  (refine nz ?_; apply AW.loopR [4, 2, 1] [0] (fun i : Nat => ([(5, litI (at'.take i).sum), (6, litI i)] : List (Nat × AV))) (fun i : Nat => ([] : List (Nat × Option Ob))) (fun i : Nat => i ≤ s) (fun i : Nat => s - i) (0); (conv => lhs; simp only [Nf.lpR, Nf.all, Nat.reduceBEq, reduceAdd, reduceSub]); (all_goals skip))
  · exact Nat.zero_le _
  · exact weak rfl (by (refine ⟨.eq rfl rfl, ?_⟩; (iterate 4 refine ⟨.eq rfl rfl, ?_⟩); exact trivial)) (by (refine ⟨.box _ rfl ?_, ?_⟩; (iterate 2 refine ⟨.eq rfl rfl, ?_⟩); (iterate 2 exact trivial))) rfl
  rintro i hi
  by_cases hlt : i < s
  · have hlt2 : i < at'.length := by omega
    have hs1 := sum_snoc at' hlt2
    have h1 := hb i
    have h2 := hb (i + 1)
    (refine Q91 ?_; refine zs ?_; refine Q43 ?_; refine AOps.fieldAddrN 30 0 0 rfl rfl rfl rfl ?_; refine zt ?_; refine zb ?_; refine zt ?_; refine zn ?_; refine Q206 ?_; refine Q287 ?_; refine Q179 ?_; refine Q329 ?_; (focus ((with_reducible apply AOps.index_map); (iterate 7 exact rfl); rotate_left; omega)); refine zr ?_; refine zj ?_; refine Q188 ?_)
    exact ⟨i + 1, by omega, by omega, weak rfl (by (refine ⟨.intE (by first | with_reducible rfl | (first | rfl | (rw [hs1]))), ?_⟩; refine ⟨.intE (by first | with_reducible rfl | (first | rfl | (rw [hs1]))), ?_⟩; refine ⟨.intE (by first | with_reducible rfl | (first | rfl | (rw [hs1]))), ?_⟩; refine ⟨.eq rfl rfl, ?_⟩; refine ⟨.intE (by first | with_reducible rfl | (first | rfl | (rw [hs1]))), ?_⟩; exact trivial)) (by (refine ⟨.box _ rfl ?_, ?_⟩; refine ⟨.pvE (by first | with_reducible rfl | (first | rfl | (rw [hs1]))), ?_⟩; refine ⟨.intE (by first | with_reducible rfl | (first | rfl | (rw [hs1]))), ?_⟩; (iterate 2 exact trivial))) rfl⟩
  · obtain rfl : i = s := by omega
    (refine Q91 ?_; refine zs ?_; refine zm ?_; (iterate 5 refine AOps.guardTn rfl rfl rfl rfl rfl rfl (by first | omega | decide) ?_); refine zF ?_; refine Q321 ?_; refine Q157 ?_; refine zm ?_; refine Q42 ?_)
    all_goals (apply ends_ret; (exact Res.one (.tmp rfl rfl)); (refine Le.litI ?_; (rfl)))
theorem r5Atoms_fn (at' : List Int) (st : Int) (h : SmA at') : Fn Tryz.prog 147 [scp at' st] (litI at'.sum) := by
  have hf := r5First_fn at' st at'.length h (Nat.le_refl _)
  rw [List.take_length] at hf
  refine Fn.enter (n := 8) Tryz.func147 rfl rfl rfl rfl rfl (by decide) fun g hro_ hwt_ => ?_; (try refine nz ?_)
  (refine Q64 ?_; refine Q51 ?_; refine Q41 ?_; refine Q22 ?_; refine zn ?_; refine zA (hf) ?_; refine Q42 ?_)
  (apply ends_ret; (exact Res.one (.tmp rfl rfl)); (refine Le.litI ?_; (rfl)))
theorem r5SortOf_fn (at' : List Int) (st x : Int) (h : SmA at') (hx : 0 ≤ x) : Fn Tryz.prog 148 [scp at' st, litI x] (litI (sortF at' x 0)) := by
  have hle := h.1
  have hp : ∀ y ∈ at', 0 ≤ y := fun y hy => (h.2 y hy).1
  refine Fn.enter (n := 27) Tryz.func148 rfl rfl rfl rfl rfl (by decide) fun g hro_ hwt_ => ?_; (try refine nz ?_)
  (refine Q64 ?_; refine Q135 ?_)
  (refine nz ?_; apply AW.loopR [2, 1] [0] (fun i : Nat => ([(5, litI i)] : List (Nat × AV))) (fun i : Nat => ([] : List (Nat × Option Ob))) (fun i : Nat => i ≤ at'.length ∧ ∀ j, j < i → sortF at' x 0 ≠ (j : Nat)) (fun i : Nat => at'.length - i) (0); (conv => lhs; simp only [Nf.lpR, Nf.all, Nat.reduceBEq, reduceAdd, reduceSub]); (all_goals skip))
  · exact ⟨Nat.zero_le _, fun j hj => by omega⟩
  · exact Q104
  rintro i ⟨hi, hno⟩
  by_cases hlt : i < at'.length
  · have h1 := r5First_fn at' st i h (by omega)
    have h2 := r5First_fn at' st (i + 1) h (by omega)
    rw [show ((i + 1 : Nat) : Int) = (i : Int) + 1 by omega] at h2
    have hq := sortF_at hp hx hlt
    by_cases hc : (at'.take i).sum ≤ x ∧ x < (at'.take (i + 1)).sum
    · have he := hq.2 hc
      rw [he]
      (refine Q128 ?_; refine Q299 ?_; refine zm ?_; refine Q202 ?_; refine zA (h1) ?_; refine Q309 ?_; refine Q41 ?_; refine zt ?_; refine zm ?_; refine zt ?_; refine zj ?_; refine zt ?_; refine zA (h2) ?_; refine Q206 ?_; refine Q334 ?_; refine Q200 ?_)
      all_goals (apply ends_ret; (exact Res.one (.tmp rfl rfl)); (refine Le.litI ?_; (rfl)))
    · (refine Q128 ?_; refine Q299 ?_; refine zm ?_; refine Q202 ?_; refine zA (h1) ?_; refine AOps.geq rfl rfl rfl rfl rfl ?_; refine zm ?_; (focus ((with_reducible apply AOps.guardT); (iterate 6 exact rfl); all_goals intro hc_)); refine zm ?_; refine zt ?_; refine Q41 ?_; refine zt ?_; refine zm ?_; refine zt ?_; refine zj ?_; refine zt ?_; refine zA (h2) ?_; refine Q206 ?_; refine Q99 ?_; (all_goals skip); rotate_left; refine Q205 ?_; refine Q45 ?_; refine Q29 ?_; (all_goals skip); rotate_left)
      all_goals exact ⟨i + 1, ⟨by omega, fun j hj => by
        rcases Nat.lt_or_eq_of_le (Nat.le_of_lt_succ hj) with h | rfl
        · exact hno j h
        · exact fun e => hc (hq.1 e)⟩, by omega, weak rfl (by (refine ⟨.eq rfl rfl, ?_⟩; (iterate 2 refine ⟨.eq rfl rfl, ?_⟩); exact trivial)) (by (refine ⟨.box _ rfl ?_, ?_⟩; (iterate 2 refine ⟨.eq rfl rfl, ?_⟩); (iterate 2 exact trivial))) rfl⟩
  · have he : sortF at' x 0 = -1 := sortF_none (by omega) fun k hk => by
      have := hno k (by omega)
      omega
    rw [he]
    (refine Q128 ?_; refine zd ?_; refine Q189 ?_)
    (apply ends_ret; (exact Res.one (.tmp rfl rfl)); (refine Le.litI ?_; (rfl)))
theorem r5Ranks_fn (at' : List Int) (st : Int) (k : Nat) (h : SmA at') (hs : at'.sum ≤ 1000) (hk : k ≤ 3) : Fn Tryz.prog 110 [scp at' st, litI k] (litI (at'.sum ^ k)) := by
  have ha := r5Atoms_fn at' st h
  have hb := h.take at'.length
  rw [List.take_length] at hb
  have hpb := pow_bound (n := at'.sum) ⟨hb.1, hs⟩
  generalize at'.sum = n at *
  refine Fn.enter (n := 21) Tryz.func110 rfl rfl rfl rfl rfl (by decide) fun g hro_ hwt_ => ?_; (try refine nz ?_)
  (refine Q64 ?_; refine Q51 ?_; refine Q135 ?_)
  (refine nz ?_; apply AW.loopR [4, 2, 1] [0] (fun i : Nat => ([(5, litI (n ^ i)), (6, litI i)] : List (Nat × AV))) (fun i : Nat => ([] : List (Nat × Option Ob))) (fun i : Nat => i ≤ k) (fun i : Nat => k - i) (0); (conv => lhs; simp only [Nf.lpR, Nf.all, Nat.reduceBEq, reduceAdd, reduceSub]); (all_goals skip))
  · exact Nat.zero_le _
  · exact weak rfl (by (refine ⟨.intE (by first | with_reducible rfl | (first | rfl | exact (Int.pow_zero n).symm)), ?_⟩; refine ⟨.intE (by first | with_reducible rfl | (first | rfl | exact (Int.pow_zero n).symm)), ?_⟩; refine ⟨.intE (by first | with_reducible rfl | (first | rfl | exact (Int.pow_zero n).symm)), ?_⟩; refine ⟨.eq rfl rfl, ?_⟩; refine ⟨.intE (by first | with_reducible rfl | (first | rfl | exact (Int.pow_zero n).symm)), ?_⟩; exact trivial)) (by (refine ⟨.box _ rfl ?_, ?_⟩; refine ⟨.pvE (by first | with_reducible rfl | (first | rfl | exact (Int.pow_zero n).symm)), ?_⟩; refine ⟨.intE (by first | with_reducible rfl | (first | rfl | exact (Int.pow_zero n).symm)), ?_⟩; (iterate 2 exact trivial))) rfl
  rintro i hi
  by_cases hlt : i < k
  · have h1 := hpb i (by omega)
    have h2 := hpb (i + 1) (by omega)
    have he : n ^ (i + 1) = n ^ i * n := Int.pow_succ _ _
    rw [he] at h2
    (refine Q91 ?_; refine Q185 ?_; refine Q287 ?_; refine Q179 ?_; refine zm ?_; refine Q41 ?_; refine zA (ha) ?_; refine AOps.mul rfl rfl rfl rfl rfl (by omega) ?_; refine Q188 ?_)
    exact ⟨i + 1, by omega, by omega, weak rfl (by (refine ⟨.intE (by first | with_reducible rfl | (first | rfl | (rw [he]))), ?_⟩; refine ⟨.intE (by first | with_reducible rfl | (first | rfl | (rw [he]))), ?_⟩; refine ⟨.intE (by first | with_reducible rfl | (first | rfl | (rw [he]))), ?_⟩; refine ⟨.eq rfl rfl, ?_⟩; refine ⟨.intE (by first | with_reducible rfl | (first | rfl | (rw [he]))), ?_⟩; exact trivial)) (by (refine ⟨.box _ rfl ?_, ?_⟩; refine ⟨.pvE (by first | with_reducible rfl | (first | rfl | (rw [he]))), ?_⟩; refine ⟨.intE (by first | with_reducible rfl | (first | rfl | (rw [he]))), ?_⟩; (iterate 2 exact trivial))) rfl⟩
  · obtain rfl : i = k := by omega
    (refine Q91 ?_; refine zs ?_; refine Q63 ?_; refine Q157 ?_; refine zm ?_; refine Q42 ?_)
    all_goals (apply ends_ret; (exact Res.one (.tmp rfl rfl)); (refine Le.litI ?_; (rfl)))
end Go.Ab
/- Chapter 05's reference: the atoms of a rank. -/
namespace Go.Ab
open Go Go.Proofs
open Nat (reduceAdd reduceSub)
set_option maxRecDepth 20000
set_option maxHeartbeats 4000000
theorem set_zeros {j : Nat} {D E : List Int} {x : Int} : (List.replicate (j + 1) 0 ++ D ++ E).set j x = List.replicate j 0 ++ (x :: D) ++ E := by
  rw [List.append_assoc, List.set_append_left _ _ (by simp), List.append_assoc]
  have e : (List.replicate (j + 1) (0 : Int)).set j x = List.replicate j 0 ++ [x] := by
    rw [List.replicate_succ', List.set_append_right _ _ (by simp)]
    simp
  rw [e]
  simp
attribute [local irreducible] AW AOps thenD inBlockD AR iterEnds roundEndsN inlEnds noGotoD
theorem r5Tuple_fn (at' : List Int) (st : Int) (k : Nat) (r : Int) (h : SmA at') (hs : at'.sum ≤ 1000) (hk : k ≤ 3) (hr : 0 ≤ r ∧ r < at'.sum ^ k) (hn : 1 ≤ at'.sum) : Fn Tryz.prog 111 [scp at' st, litI k, litI r] (.pv (ints (digL at'.sum k r))) := by
  have ha := r5Atoms_fn at' st h
  have hrk := r5Ranks_fn at' st k h hs hk
  have hpb := pow_bound (n := at'.sum) ⟨by omega, hs⟩ k hk
  generalize at'.sum ^ k = top at *
  generalize at'.sum = n at *
  refine Fn.enter (n := 50) Tryz.func111 rfl rfl rfl rfl rfl (by decide) fun g hro_ hwt_ => ?_; (try refine nz ?_)
  (refine Q64 ?_; refine Q214 ?_; refine zs ?_; refine zm ?_; refine Q92 ?_; refine AOps.gtr rfl rfl rfl rfl rfl ?_; refine AOps.pick_lf rfl rfl rfl rfl rfl rfl ?_; refine Q13 ?_; refine zs ?_; refine zF ?_; refine Q13 ?_; refine Q41 ?_; refine zy ?_; refine Q131 ?_; refine zA (hrk) ?_; refine zy ?_; refine Q195 ?_; refine Q184 ?_; refine AOps.makeSlice1 rfl rfl rfl rfl rfl rfl rfl rfl rfl rfl (by omega) ?_; refine nz ?_; refine Q31 ?_; refine Q4 ?_; refine Q41 ?_; refine zA (ha) ?_; refine Q51 ?_; refine zm ?_; refine Q61 ?_; refine Q190 ?_; refine Q75 ?_)
  (refine nz ?_; apply AW.loopR [8, 6, 1] [1] (fun s : Nat × Int × List Int => ([(7, .own 1 3 1 ((List.replicate s.1 0 ++ s.2.2 ++ List.replicate (3 - k) 0).map encI)), (9, litI s.2.1), (10, litI ((s.1 : Int) - 1))] : List (Nat × AV))) (fun s : Nat × Int × List Int => ([] : List (Nat × Option Ob))) (fun s : Nat × Int × List Int => s.1 ≤ k ∧ s.2.2.length = k - s.1 ∧ 0 ≤ s.2.1 ∧ s.2.1 ≤ 9223372036854775807 ∧ digL n k r = digL n s.1 s.2.1 ++ s.2.2) (fun s : Nat × Int × List Int => s.1) ((k, r, [])); (conv => lhs; simp only [Nf.lpR, Nf.all, Nat.reduceBEq, reduceAdd, reduceSub]); (all_goals skip))
  · exact ⟨Nat.le_refl _, by simp, hr.1, by show r ≤ _; omega, by simp⟩
  · exact weak rfl (by (refine ⟨.ownE (by first | with_reducible rfl | (first | rfl | (show List.replicate 3 _ = List.map encI _; rw [List.append_nil, List.replicate_append_replicate, List.map_replicate, show k + (3 - k) = 3 by omega]; rfl))) rfl, ?_⟩; refine ⟨.intE (by first | with_reducible rfl | (first | rfl | (show List.replicate 3 _ = List.map encI _; rw [List.append_nil, List.replicate_append_replicate, List.map_replicate, show k + (3 - k) = 3 by omega]; rfl))), ?_⟩; refine ⟨.intE (by first | with_reducible rfl | (first | rfl | (show List.replicate 3 _ = List.map encI _; rw [List.append_nil, List.replicate_append_replicate, List.map_replicate, show k + (3 - k) = 3 by omega]; rfl))), ?_⟩; refine ⟨.intE (by first | with_reducible rfl | (first | rfl | (show List.replicate 3 _ = List.map encI _; rw [List.append_nil, List.replicate_append_replicate, List.map_replicate, show k + (3 - k) = 3 by omega]; rfl))), ?_⟩; refine ⟨.eq rfl rfl, ?_⟩; refine ⟨.intE (by first | with_reducible rfl | (first | rfl | (show List.replicate 3 _ = List.map encI _; rw [List.append_nil, List.replicate_append_replicate, List.map_replicate, show k + (3 - k) = 3 by omega]; rfl))), ?_⟩; exact trivial)) (by (refine ⟨.row rfl, ?_⟩; exact trivial)) rfl
  rintro ⟨j, r', D⟩ ⟨h1, h2, h3, h4, h5⟩
  simp only at h1 h2 h3 h4 h5 ⊢
  cases j with
  | zero =>
    have e1 : digL n k r = D := h5
    rw [e1]
    (refine Q98 ?_; refine AOps.geq rfl rfl rfl rfl rfl ?_; refine Q321 ?_; refine Q157 ?_; refine Q319 ?_; (with_reducible apply AOps.slice_own); (iterate 7 exact rfl); omega; (first | omega | (simp only [List.length_map, List.length_append, List.length_cons, List.length_nil, List.length_drop, List.length_take, List.length_set, chunk_len]; omega)); refine Q294 ?_)
    (apply ends_ret; (exact Res.one (.tmp rfl rfl)); (refine Le.ownE ?_; (first | rfl | (show List.take _ (List.map encI _) = _; rw [← List.map_take, Int.toNat_natCast, List.replicate_zero, List.nil_append, List.take_append_of_le_length (by omega), List.take_of_length_le (by omega)]))))
  | succ j =>
    have ek : ((j + 1 : Nat) : Int) - 1 = (j : Int) := by omega
    rw [ek]
    have hd1 := Int.ediv_nonneg h3 (by omega : 0 ≤ n)
    have hd2 := Int.ediv_le_self n h3
    have hlen : (List.replicate (j + 1) (0 : Int) ++ D ++ List.replicate (3 - k) 0).length = 3 := by simp; omega
    have hsz := set_zeros (j := j) (D := D) (E := List.replicate (3 - k) 0) (x := r' % n)
    (refine Q142 ?_; refine AOps.move_own rfl rfl rfl ?_; (iterate 3 refine zm ?_); refine AOps.remE rfl rfl rfl rfl rfl (by omega) ?_; refine Q235 ?_; refine AOps.store_o1 rfl rfl rfl rfl rfl rfl rfl rfl ?_; refine zd ?_; refine Q279 ?_; refine AOps.quoE rfl rfl rfl rfl rfl (by omega) ?_; refine za ?_; refine AOps.nil ?_; refine Q11 ?_; refine nz ?_; refine Q190 ?_; refine Q5 ?_)
    exact ⟨(j, r' / n, r' % n :: D), ⟨by show j ≤ k; omega, by show (r' % n :: D).length = k - j; rw [List.length_cons]; omega, hd1, by show r' / n ≤ _; omega, by show _ = digL n j (r' / n) ++ (r' % n :: D); rw [h5]; show (digL n j (r' / n) ++ [r' % n]) ++ D = _; simp⟩, by show j < j + 1; omega, weak rfl (by (refine ⟨.ownE (by first | with_reducible rfl | (first | rfl | (rw [← hsz, List.map_set]; rfl))) rfl, ?_⟩; refine ⟨.intE (by first | with_reducible rfl | (first | rfl | (rw [← hsz, List.map_set]; rfl))), ?_⟩; refine ⟨.intE (by first | with_reducible rfl | (first | rfl | (rw [← hsz, List.map_set]; rfl))), ?_⟩; refine ⟨.intE (by first | with_reducible rfl | (first | rfl | (rw [← hsz, List.map_set]; rfl))), ?_⟩; refine ⟨.eq rfl rfl, ?_⟩; refine ⟨.intE (by first | with_reducible rfl | (first | rfl | (rw [← hsz, List.map_set]; rfl))), ?_⟩; exact trivial)) (by (refine ⟨.row rfl, ?_⟩; exact trivial)) rfl⟩
end Go.Ab
/- Chapter 05's reference: a tuple's atoms against sorts. -/
namespace Go.Ab
open Go Go.Proofs
open Nat (reduceAdd reduceSub)
set_option maxRecDepth 20000
set_option maxHeartbeats 4000000
def fitsB (at' : List Int) : List Int → List Int → Bool
  | s :: ss, t :: ts => decide (sortF at' t 0 = s) && fitsB at' ss ts
  | _, _ => true
theorem fitsB_drop {at' ss ts : List Int} {i : Nat} (h1 : i < ss.length) (h2 : i < ts.length) : fitsB at' (ss.drop i) (ts.drop i) = (decide (sortF at' ts[i] 0 = ss[i]) && fitsB at' (ss.drop (i + 1)) (ts.drop (i + 1))) := by
  rw [List.drop_eq_getElem_cons h1, List.drop_eq_getElem_cons h2]; rfl
attribute [local irreducible] AW AOps thenD inBlockD AR iterEnds roundEndsN inlEnds noGotoD
theorem r5fits_fn (at' : List Int) (st : Int) (ts ss : List Int) (h : SmA at') (hl : ts.length = ss.length) (hs : ss.length ≤ 1000) (hp : ∀ t ∈ ts, 0 ≤ t) : Fn Tryz.prog 112 [scp at' st, .pv (ints ts), .pv (ints ss)] (litB (fitsB at' ss ts)) := by
  refine Fn.enter (n := 25) Tryz.func112 rfl rfl rfl rfl rfl (by decide) fun g hro_ hwt_ => ?_; (try refine nz ?_)
  (refine Q64 ?_; refine Q135 ?_)
  (refine nz ?_; apply AW.loopR [3, 1, 2] [0] (fun i : Nat => ([(7, litI i)] : List (Nat × AV))) (fun i : Nat => ([] : List (Nat × Option Ob))) (fun i : Nat => i ≤ ss.length ∧ fitsB at' ss ts = fitsB at' (ss.drop i) (ts.drop i)) (fun i : Nat => ss.length - i) (0); (conv => lhs; simp only [Nf.lpR, Nf.all, Nat.reduceBEq, reduceAdd, reduceSub]); (all_goals skip))
  · exact ⟨Nat.zero_le _, rfl⟩
  · exact Q103
  rintro i ⟨hi, he⟩
  by_cases hlt : i < ss.length
  · have hlt2 : i < ts.length := by omega
    rw [fitsB_drop hlt hlt2] at he
    have hso := r5SortOf_fn at' st ts[i] h (hp _ (List.getElem_mem hlt2))
    by_cases hq : sortF at' ts[i] 0 = ss[i]
    · rw [decide_eq_true hq, Bool.true_and] at he
      (refine Q89 ?_; (with_reducible apply AW.regionQ); exact rfl; exact rfl; kernel_rfl; (with_reducible assumption); refine Q80 ?_; (focus ((with_reducible apply AOps.index_map); (iterate 7 exact rfl); rotate_left; omega)); refine zr ?_; refine zA (hso) ?_; (iterate 2 refine zm ?_); (focus ((with_reducible apply AOps.index_map); (iterate 7 exact rfl); rotate_left; omega)); refine Q325 ?_; refine Q99 ?_)
      exact ⟨i + 1, ⟨by omega, he⟩, by omega, weak rfl (by (refine ⟨.eq rfl rfl, ?_⟩; (iterate 3 refine ⟨.eq rfl rfl, ?_⟩); exact trivial)) (by (refine ⟨.box _ rfl ?_, ?_⟩; (iterate 2 refine ⟨.eq rfl rfl, ?_⟩); (iterate 2 exact trivial))) rfl⟩
    · rw [decide_eq_false hq, Bool.false_and] at he
      (refine Q89 ?_; (with_reducible apply AW.regionQ); exact rfl; exact rfl; kernel_rfl; (with_reducible assumption); refine Q80 ?_; (focus ((with_reducible apply AOps.index_map); (iterate 7 exact rfl); rotate_left; omega)); refine zr ?_; refine zA (hso) ?_; (iterate 2 refine zm ?_); (focus ((with_reducible apply AOps.index_map); (iterate 7 exact rfl); rotate_left; omega)); refine Q325 ?_; refine Q83 ?_; refine Q200 ?_)
      (apply ends_ret; (exact Res.one (.tmp rfl rfl)); (refine Le.litB ?_; (exact he.symm)))
  · rw [List.drop_eq_nil_of_le (by omega)] at he
    have he : fitsB at' ss ts = true := by rw [he]; unfold fitsB; rfl
    (refine Q10 ?_; refine Q189 ?_)
    (apply ends_ret; (exact Res.one (.tmp rfl rfl)); (refine Le.litB ?_; (exact he.symm)))
end Go.Ab
/- Chapter 05's reference: all tuples whose atoms have the columns' sorts. -/
namespace Go.Ab
open Go Go.Proofs
open Nat (reduceAdd reduceSub)
set_option maxRecDepth 20000
set_option maxHeartbeats 4000000
theorem digL_nn {n : Int} (hn : 1 ≤ n) : ∀ (k : Nat) {r : Int}, 0 ≤ r → ∀ t ∈ digL n k r, 0 ≤ t
  | 0, _, _, t, h => by simp [digL] at h
  | k + 1, r, hr, t, h => by
    simp only [digL, List.mem_append, List.mem_singleton] at h
    rcases h with h | rfl
    · exact digL_nn hn k (Int.ediv_nonneg hr (by omega)) t h
    · exact Int.emod_nonneg r (by omega)
def numsB (p : Int → Bool) (m : Nat) : List Int := ((List.range m).map fun (i : Nat) => (i : Int)).filter p
theorem numsB_succ (p : Int → Bool) (m : Nat) : numsB p (m + 1) = numsB p m ++ if p m = true then [(m : Int)] else [] := by
  unfold numsB
  rw [List.range_succ, List.map_append, List.filter_append]
  by_cases h : p m = true
  · simp [h]
  · simp [h]
theorem numsB_len (p : Int → Bool) (m : Nat) : (numsB p m).length ≤ m := by
  unfold numsB
  exact Nat.le_trans (List.length_filter_le _ _) (by simp)
attribute [local irreducible] AW AOps thenD inBlockD AR iterEnds roundEndsN inlEnds noGotoD numsB digL fitsB
theorem r5Full_fn (at' : List Int) (st : Int) (l : List Int) (hc : colsB at'.length l = true) (h : SmA at') (hs : at'.sum ≤ 1000) (hn : 1 ≤ at'.sum) :
    Fn Tryz.prog 74 [scp at' st, .pv (ints l)] (relA (l.length, numsB (fun r => fitsB at' l (digL at'.sum l.length r)) (at'.sum ^ l.length).toNat)) := by
  unfold colsB at hc
  rw [Bool.and_eq_true, decide_eq_true_eq] at hc
  obtain ⟨hc1, hc2⟩ := hc
  have hin := insB_at hc2
  have hle := h.1
  have hrk := r5Ranks_fn at' st l.length h hs (by omega)
  have hpb := pow_bound (n := at'.sum) ⟨by omega, hs⟩ l.length (by omega)
  have htu := fun r hr => r5Tuple_fn at' st l.length r h hs (by omega) hr hn
  have hfi := fun r hr => r5fits_fn at' st (digL at'.sum l.length r) l h (digL_len _ _ _) (by omega) (digL_nn hn l.length (r := r) hr)
  generalize hp : (fun r => fitsB at' l (digL at'.sum l.length r)) = p
  have hpe : ∀ r, fitsB at' l (digL at'.sum l.length r) = p r := fun r => by rw [← hp]
  obtain ⟨m, hm⟩ : ∃ m : Nat, at'.sum ^ l.length = (m : Int) := ⟨(at'.sum ^ l.length).toNat, by omega⟩
  rw [hm] at hrk hpb htu ⊢
  rw [Int.toNat_natCast]
  refine Fn.enter (n := 64) Tryz.func74 rfl rfl rfl rfl rfl (by decide) fun g hro_ hwt_ => ?_; (try refine nz ?_)
  (refine Q64 ?_; refine Q9 ?_; refine Q326 ?_; refine zm ?_; refine zn ?_; refine Q214 ?_; refine zs ?_; refine Q13 ?_; refine AOps.gtr rfl rfl rfl rfl rfl ?_; refine zF ?_; refine Q234 ?_; refine Q75 ?_)
  (refine nz ?_; apply AW.loopR [5, 4, 2, 1] [1, 0] (fun i : Nat => ([(6, litI i)] : List (Nat × AV))) (fun i : Nat => ([] : List (Nat × Option Ob))) (fun i : Nat => i ≤ l.length) (fun i : Nat => l.length - i) (0); (conv => lhs; simp only [Nf.lpR, Nf.all, Nat.reduceBEq, reduceAdd, reduceSub]); (all_goals skip))
  · exact Nat.zero_le _
  · exact weak rfl (by (refine ⟨.eq rfl rfl, ?_⟩; (iterate 4 refine ⟨.eq rfl rfl, ?_⟩); exact trivial)) (by (refine ⟨.box _ rfl ?_, ?_⟩; (iterate 2 refine ⟨.eq rfl rfl, ?_⟩); exact trivial; refine ⟨.box _ rfl ?_, ?_⟩; (iterate 2 refine ⟨.eq rfl rfl, ?_⟩); (iterate 2 exact trivial))) rfl
  rintro i hi
  by_cases hlt : i < l.length
  · have hb := hin _ (List.getElem_mem hlt)
    (refine Q91 ?_; refine zs ?_; refine Q287 ?_; refine zo ?_; (with_reducible apply AW.regionQ); exact rfl; exact rfl; kernel_rfl; (with_reducible assumption); (iterate 2 refine zm ?_); (focus ((with_reducible apply AOps.index_map); (iterate 7 exact rfl); rotate_left; omega)); refine Q301 ?_; refine Q13 ?_; refine Q131 ?_; (focus ((with_reducible apply AOps.index_map); (iterate 7 exact rfl); rotate_left; omega)); refine Q277 ?_; refine Q137 ?_; refine zn ?_; refine zy ?_; refine Q195 ?_; refine Q99 ?_)
    exact ⟨i + 1, by omega, by omega, weak rfl (by (refine ⟨.eq rfl rfl, ?_⟩; (iterate 4 refine ⟨.eq rfl rfl, ?_⟩); exact trivial)) (by (refine ⟨.box _ rfl ?_, ?_⟩; (iterate 2 refine ⟨.eq rfl rfl, ?_⟩); exact trivial; refine ⟨.box _ rfl ?_, ?_⟩; (iterate 2 refine ⟨.eq rfl rfl, ?_⟩); (iterate 2 exact trivial))) rfl⟩
  obtain rfl : i = l.length := by omega
  (refine Q91 ?_; refine zs ?_; refine zd ?_; refine Q44 ?_; refine zm ?_; refine Q248 ?_; refine nz ?_; refine Q120 ?_; refine Q46 ?_; refine Q75 ?_)
  (refine nz ?_; apply AW.loopR [7, 5, 4, 2, 1] [1, 0] (fun r : Nat => ([(8, litI r)] : List (Nat × AV))) (fun r : Nat => ([(2, some (.box [litI l.length, .own 3 3 1 ((numsB p r).map encI)])), (3, some .row)] : List (Nat × Option Ob))) (fun r : Nat => r ≤ m) (fun r : Nat => m - r) (0); (conv => lhs; simp only [Nf.lpR, Nf.all, Nat.reduceBEq, reduceAdd, reduceSub]); (all_goals skip))
  · exact Nat.zero_le _
  · exact weak rfl (by (refine ⟨.intE (by first | with_reducible rfl | (first | rfl | (unfold numsB; rfl))), ?_⟩; refine ⟨.eq rfl rfl, ?_⟩; refine ⟨.intE (by first | with_reducible rfl | (first | rfl | (unfold numsB; rfl))), ?_⟩; (iterate 2 refine ⟨.eq rfl rfl, ?_⟩); refine ⟨.pvE (by first | with_reducible rfl | (first | rfl | (unfold numsB; rfl))), ?_⟩; exact trivial)) (by (refine ⟨.box _ rfl ?_, ?_⟩; refine ⟨.intE (by first | with_reducible rfl | (first | rfl | (unfold numsB; rfl))), ?_⟩; refine ⟨.nilownE (by first | rfl | (unfold numsB; rfl)) rfl rfl, ?_⟩; exact trivial; refine ⟨.newrow rfl, ?_⟩; refine ⟨.box _ rfl ?_, ?_⟩; refine ⟨.intE (by first | with_reducible rfl | (first | rfl | (unfold numsB; rfl))), ?_⟩; refine ⟨.eq rfl rfl, ?_⟩; exact trivial; refine ⟨.box _ rfl ?_, ?_⟩; refine ⟨.pvE (by first | with_reducible rfl | (first | rfl | (unfold numsB; rfl))), ?_⟩; refine ⟨.intE (by first | with_reducible rfl | (first | rfl | (unfold numsB; rfl))), ?_⟩; (iterate 2 exact trivial))) rfl
  rintro r hr
  by_cases hlt2 : r < m
  · have hln := numsB_len p r
    have hsu := numsB_succ p r
    have ht := htu r ⟨by omega, by omega⟩
    have hf := hfi r (by omega)
    rw [hpe] at hf
    cases hb : p r with
    | true =>
      rw [hb] at hf
      rw [if_pos hb] at hsu
      (refine Q98 ?_; refine Q202 ?_; refine zA (hrk) ?_; refine zs ?_; refine Q299 ?_; refine Q80 ?_; refine zP (ht) ?_; refine Q51 ?_; refine Q80 ?_; refine zA (hf) ?_; refine Q251 ?_; refine Q179 ?_; refine Q39 ?_; refine zm ?_; refine Q50 ?_; (with_reducible apply AOps.appendS); exact rfl; (first | exact .pv rfl | exact .own rfl | exact .nil rfl); (iterate 9 exact rfl); (first | omega | (simp only [List.length_map, List.length_append, List.length_cons, List.length_nil, List.length_drop, List.length_take, List.length_set, chunk_len]; omega)); refine nz ?_; refine AOps.fieldAddrN 105 1 1 rfl rfl rfl rfl ?_; refine Q35 ?_; refine nz ?_; refine AOps.nil ?_; refine Q11 ?_; refine zm ?_; refine zj ?_; refine Q5 ?_)
      exact ⟨r + 1, by omega, by omega, weak rfl (by (refine ⟨.intE (by first | with_reducible rfl | (first | rfl | (rw [hsu, List.map_append]; rfl))), ?_⟩; refine ⟨.eq rfl rfl, ?_⟩; refine ⟨.intE (by first | with_reducible rfl | (first | rfl | (rw [hsu, List.map_append]; rfl))), ?_⟩; (iterate 2 refine ⟨.eq rfl rfl, ?_⟩); refine ⟨.pvE (by first | with_reducible rfl | (first | rfl | (rw [hsu, List.map_append]; rfl))), ?_⟩; exact trivial)) (by (refine ⟨.box _ rfl ?_, ?_⟩; refine ⟨.intE (by first | with_reducible rfl | (first | rfl | (rw [hsu, List.map_append]; rfl))), ?_⟩; refine ⟨.ownE (by first | with_reducible rfl | (first | rfl | (rw [hsu, List.map_append]; rfl))) rfl, ?_⟩; exact trivial; refine ⟨.row rfl, ?_⟩; refine ⟨.box _ rfl ?_, ?_⟩; refine ⟨.intE (by first | with_reducible rfl | (first | rfl | (rw [hsu, List.map_append]; rfl))), ?_⟩; refine ⟨.eq rfl rfl, ?_⟩; exact trivial; refine ⟨.box _ rfl ?_, ?_⟩; refine ⟨.pvE (by first | with_reducible rfl | (first | rfl | (rw [hsu, List.map_append]; rfl))), ?_⟩; refine ⟨.intE (by first | with_reducible rfl | (first | rfl | (rw [hsu, List.map_append]; rfl))), ?_⟩; (iterate 2 exact trivial))) rfl⟩
    | false =>
      rw [hb] at hf
      rw [if_neg (by rw [hb]; simp), List.append_nil] at hsu
      (refine Q98 ?_; refine Q202 ?_; refine zA (hrk) ?_; refine zs ?_; refine Q299 ?_; refine Q80 ?_; refine zP (ht) ?_; refine Q51 ?_; refine Q80 ?_; refine zA (hf) ?_; refine Q45 ?_; refine Q29 ?_)
      exact ⟨r + 1, by omega, by omega, weak rfl (by (refine ⟨.intE (by first | with_reducible rfl | (first | rfl | (rw [hsu]))), ?_⟩; refine ⟨.eq rfl rfl, ?_⟩; refine ⟨.intE (by first | with_reducible rfl | (first | rfl | (rw [hsu]))), ?_⟩; (iterate 2 refine ⟨.eq rfl rfl, ?_⟩); refine ⟨.pvE (by first | with_reducible rfl | (first | rfl | (rw [hsu]))), ?_⟩; exact trivial)) (by (refine ⟨.box _ rfl ?_, ?_⟩; refine ⟨.intE (by first | with_reducible rfl | (first | rfl | (rw [hsu]))), ?_⟩; refine ⟨.ownE (by first | with_reducible rfl | (first | rfl | (rw [hsu]))) rfl, ?_⟩; exact trivial; refine ⟨.row rfl, ?_⟩; refine ⟨.box _ rfl ?_, ?_⟩; refine ⟨.intE (by first | with_reducible rfl | (first | rfl | (rw [hsu]))), ?_⟩; refine ⟨.eq rfl rfl, ?_⟩; exact trivial; refine ⟨.box _ rfl ?_, ?_⟩; refine ⟨.pvE (by first | with_reducible rfl | (first | rfl | (rw [hsu]))), ?_⟩; refine ⟨.intE (by first | with_reducible rfl | (first | rfl | (rw [hsu]))), ?_⟩; (iterate 2 exact trivial))) rfl⟩
  · obtain rfl : r = m := by omega
    (refine Q98 ?_; refine Q202 ?_; refine zA (hrk) ?_; refine zs ?_; refine zd ?_; refine Q44 ?_; refine Q41 ?_; refine Q62 ?_; refine zd ?_; refine AW.ret ?_)
    (apply ends_ret; (exact Res.one (.cell rfl rfl rfl rfl)); (refine Le.aggL ?_; refine LeL.cons ?_ ?_; (with_reducible exact Le.pv _); refine LeL.cons ?_ ?_; exact Le.own _ _ _ _ rfl; exact LeL.nil))
end Go.Ab
/- Chapter 05's reference: scopes that fit. -/
namespace Go.Ab
open Go Go.Proofs
open Nat (reduceAdd reduceSub)
set_option maxRecDepth 20000
set_option maxHeartbeats 4000000
def sizedB (at' : List Int) (st : Int) : Bool := decide (at'.length ≤ 4 ∧ 1 ≤ st ∧ st ≤ 4) && (sizesOk at' && decide (at'.sum ≤ 12))
attribute [local irreducible] AW AOps thenD inBlockD AR iterEnds roundEndsN inlEnds noGotoD
theorem r5Sized_fn (at' : List Int) (st : Int) : Fn Tryz.prog 116 [scp at' st] (litB (sizedB at' st)) := by
  unfold sizedB
  by_cases h1 : at'.length ≤ 4 ∧ 1 ≤ st ∧ st ≤ 4
  · rw [decide_eq_true h1, Bool.true_and]
    refine Fn.enter (n := 49) Tryz.func116 rfl rfl rfl rfl rfl (by decide) fun g hro_ hwt_ => ?_; (try refine nz ?_)
    (refine Q64 ?_; refine Q61 ?_; refine Q22 ?_; refine Q196 ?_; refine Q131 ?_; refine AOps.fieldAddrN 30 1 1 rfl rfl rfl rfl ?_; refine Q70 ?_; refine zs ?_; refine zF ?_; refine Q131 ?_; refine AOps.fieldAddrN 30 1 1 rfl rfl rfl rfl ?_; refine zy ?_; refine zb ?_; refine Q36 ?_; refine Q184 ?_; refine Q135 ?_)
    (refine nz ?_; apply AW.loopR [6, 1] [0] (fun i : Nat => ([(3, litI (at'.take i).sum), (4, litI i)] : List (Nat × AV))) (fun i : Nat => ([] : List (Nat × Option Ob))) (fun i : Nat => i ≤ at'.length ∧ sizesOk (at'.take i) = true) (fun i : Nat => at'.length - i) (0); (conv => lhs; simp only [Nf.lpR, Nf.all, Nat.reduceBEq, reduceAdd, reduceSub]); (all_goals skip))
    · exact ⟨Nat.zero_le _, rfl⟩
    · exact Q103
    rintro i ⟨hi, hok⟩
    by_cases hlt : i < at'.length
    · have hb := (sizesOk_sm hok (by rw [List.length_take]; omega)).take i
      rw [List.take_take, Nat.min_self] at hb
      have hsn := sum_snoc at' hlt
      by_cases h2 : 1 ≤ at'[i] ∧ at'[i] ≤ 5
      · (refine Q308 ?_; refine Q22 ?_; refine zm ?_; (focus ((with_reducible apply AOps.index_map); (iterate 7 exact rfl); rotate_left; omega)); refine Q301 ?_; refine Q131 ?_; refine Q137 ?_; refine Q131 ?_; (focus ((with_reducible apply AOps.index_map); (iterate 7 exact rfl); rotate_left; omega)); refine Q314 ?_; refine Q154 ?_; refine Q179 ?_; refine Q329 ?_; (focus ((with_reducible apply AOps.index_map); (iterate 7 exact rfl); rotate_left; omega)); refine zr ?_; refine zj ?_; refine Q188 ?_)
        exact ⟨i + 1, ⟨by omega, sizes_step hok hlt h2⟩, by omega, weak rfl (by (refine ⟨.intE (by first | with_reducible rfl | (first | rfl | (rw [hsn]))), ?_⟩; refine ⟨.intE (by first | with_reducible rfl | (first | rfl | (rw [hsn]))), ?_⟩; refine ⟨.pvE (by first | with_reducible rfl | (first | rfl | (rw [hsn]))), ?_⟩; refine ⟨.eq rfl rfl, ?_⟩; exact trivial)) (by (refine ⟨.box _ rfl ?_, ?_⟩; refine ⟨.pvE (by first | with_reducible rfl | (first | rfl | (rw [hsn]))), ?_⟩; refine ⟨.intE (by first | with_reducible rfl | (first | rfl | (rw [hsn]))), ?_⟩; (iterate 2 exact trivial))) rfl⟩
      · have hz := sizesOk_no hlt h2
        (refine Q308 ?_; refine Q22 ?_; refine zm ?_; (focus ((with_reducible apply AOps.index_map); (iterate 7 exact rfl); rotate_left; omega)); refine Q301 ?_; refine zm ?_; (focus ((with_reducible apply AOps.guardF); (iterate 6 exact rfl); all_goals intro hc_)); refine Q137 ?_; refine Q131 ?_; (focus ((with_reducible apply AOps.index_map); (iterate 7 exact rfl); rotate_left; omega)); refine Q314 ?_; refine Q83 ?_; refine Q57 ?_; refine Q27 ?_; (all_goals skip); rotate_left; (iterate 5 refine AOps.guardFn rfl rfl rfl rfl rfl rfl (by with_reducible assumption) ?_); refine zT ?_; refine Q216 ?_; refine Q57 ?_; refine Q27 ?_; (all_goals skip); rotate_left)
        all_goals (apply ends_ret; (exact Res.one (.tmp rfl rfl)); (refine Le.litB ?_; (rw [hz]; rfl)))
    · rw [take_all (l := at') (by omega)] at hok
      rw [take_all (l := at') (by omega), hok, Bool.true_and]
      (refine Q128 ?_; refine zd ?_; refine Q44 ?_; refine zm ?_; refine AOps.leq rfl rfl rfl rfl rfl ?_; refine Q42 ?_)
      (apply ends_ret; (exact Res.one (.tmp rfl rfl)); (refine Le.litB ?_; (rfl)))
  · rw [decide_eq_false h1, Bool.false_and]
    refine Fn.enter (n := 49) Tryz.func116 rfl rfl rfl rfl rfl (by decide) fun g hro_ hwt_ => ?_; (try refine nz ?_)
    (refine Q64 ?_; refine Q61 ?_; refine Q22 ?_; refine Q196 ?_; refine zm ?_; (focus ((with_reducible apply AOps.guardF); (iterate 6 exact rfl); all_goals intro hc_)); refine AOps.fieldAddrN 30 1 1 rfl rfl rfl rfl ?_; refine Q70 ?_; refine zs ?_; refine zF ?_; refine zm ?_; (focus ((with_reducible apply AOps.guardF); (iterate 6 exact rfl); all_goals intro hc_)); refine AOps.fieldAddrN 30 1 1 rfl rfl rfl rfl ?_; refine zy ?_; refine zb ?_; refine Q36 ?_; refine Q83 ?_; refine Q57 ?_; (all_goals skip); rotate_left; refine Q129 ?_; refine Q216 ?_; refine Q57 ?_; (all_goals skip); rotate_left; refine Q129 ?_; refine zm ?_; refine Q151 ?_; refine Q216 ?_; refine Q57 ?_; (all_goals skip); rotate_left)
    all_goals (apply ends_ret; (exact Res.one (.tmp rfl rfl)); (refine Le.litB ?_; (first | rfl | exact decide_eq_false (by omega))))
end Go.Ab
/- Chapter 05: the reference's full relation is the program's. -/
namespace Go.Ab
open Go Go.Proofs
set_option maxRecDepth 20000
set_option maxHeartbeats 4000000
theorem rks_bound {n : Int} (hn : 0 ≤ n) : ∀ (l : List (Int × Nat)), (∀ c ∈ l, 0 ≤ c.1 ∧ c.1 + c.2 ≤ n) → ∀ (p : Int), 0 ≤ p → Inc (rks n p l) ∧ ∀ t ∈ rks n p l, p * n ^ l.length ≤ t ∧ t < (p + 1) * n ^ l.length
  | [], _, p, _ => by rw [rks_nil]; simp; omega
  | (f, z) :: l, h, p, hp => by
    have hc := h (f, z) (by simp)
    simp only at hc
    have ih := rks_bound hn l fun c hc => h c (by simp [hc])
    have hpn : 0 ≤ p * n := Int.mul_nonneg hp hn
    have hm : 0 ≤ n ^ l.length := Int.pow_nonneg hn
    have hq : ∀ i : Nat, 0 ≤ p * n + (f + (i : Int)) := fun i => by omega
    show Inc ((List.range z).flatMap fun i => rks n (p * n + (f + (i : Nat))) l) ∧ _
    constructor
    · show List.Pairwise _ _
      rw [List.pairwise_flatMap]
      refine ⟨fun i _ => (ih _ (hq i)).1, ?_⟩
      refine List.pairwise_lt_range.imp fun {i j} hij x hx y hy => ?_
      have h1 := ((ih _ (hq i)).2 x hx).2
      have h2 := ((ih _ (hq j)).2 y hy).1
      have h3 : (p * n + (f + (i : Int)) + 1) * n ^ l.length ≤ (p * n + (f + (j : Int))) * n ^ l.length := Int.mul_le_mul_of_nonneg_right (by omega) hm
      omega
    · intro t ht
      obtain ⟨i, hi, ht⟩ := List.mem_flatMap.1 ht
      rw [List.mem_range] at hi
      obtain ⟨h1, h2⟩ := (ih _ (hq i)).2 t ht
      have e : n ^ ((f, z) :: l).length = n * n ^ l.length := by rw [List.length_cons, Int.pow_succ, Int.mul_comm]
      rw [e, ← Int.mul_assoc, ← Int.mul_assoc]
      have h3 : (p * n) * n ^ l.length ≤ (p * n + (f + (i : Int))) * n ^ l.length := Int.mul_le_mul_of_nonneg_right (by omega) hm
      have h4 : (p * n + (f + (i : Int)) + 1) * n ^ l.length ≤ ((p + 1) * n) * n ^ l.length := Int.mul_le_mul_of_nonneg_right (by rw [Int.add_mul]; omega) hm
      omega
theorem colL_ok {at' : List Int} (hp : ∀ y ∈ at', 0 ≤ y) {l : List Int} (hs : ∀ s ∈ l, 0 ≤ s ∧ s < at'.length) : ∀ c ∈ colL at' l, 0 ≤ c.1 ∧ c.1 + c.2 ≤ at'.sum := by
  intro c hc
  unfold colL at hc
  obtain ⟨s, h1, rfl⟩ := List.mem_map.1 hc
  have h2 := hs s h1
  have h3 := take_le hp (k := s.toNat) (by omega)
  have h4 : 0 ≤ at'.getD s.toNat 0 := by rw [getD_at (by omega)]; exact hp _ (List.getElem_mem _)
  simp only
  omega
theorem full_inc {at' : List Int} (hp : ∀ y ∈ at', 0 ≤ y) {l : List Int} (hs : ∀ s ∈ l, 0 ≤ s ∧ s < at'.length) : Inc (fullR at' l).2 :=
  (rks_bound (sum_nn hp) _ (colL_ok hp hs) 0 (Int.le_refl _)).1
theorem fitsB_snoc {at' : List Int} : ∀ {l : List Int} {ts : List Int} {s t : Int}, l.length = ts.length → fitsB at' (l ++ [s]) (ts ++ [t]) = (decide (sortF at' t 0 = s) && fitsB at' l ts)
  | [], [], s, t, _ => by simp [fitsB]
  | a :: l, b :: ts, s, t, h => by
    show (_ && fitsB at' (l ++ [s]) (ts ++ [t])) = (_ && (_ && _))
    rw [fitsB_snoc (by simpa using h), ← Bool.and_assoc, ← Bool.and_assoc, Bool.and_comm (decide _) (decide _)]
theorem fits_cols (at' : List Int) (n : Int) : ∀ (m : Nat) (l : List Int), l.length = m → ∀ r, fitsB at' l (digL n m r) = colsF at' n l.reverse r
  | 0, l, h, r => by obtain rfl := List.eq_nil_of_length_eq_zero h; rfl
  | m + 1, l, h, r => by
    obtain ⟨l', s, rfl⟩ : ∃ l' s, l = l' ++ [s] := ⟨l.dropLast, l.getLast (by intro e; subst e; simp at h), (List.dropLast_concat_getLast _).symm⟩
    have hm' : l'.length = m := by simpa using h
    rw [List.reverse_append]
    show fitsB at' (l' ++ [s]) (digL n m (r / n) ++ [r % n]) = colsF at' n (s :: l'.reverse) r
    rw [fitsB_snoc (by rw [digL_len]; exact hm'), fits_cols at' n m l' hm' (r / n)]
    rfl
theorem numsB_inc (p : Int → Bool) (m : Nat) : Inc (numsB p m) := by
  unfold numsB
  refine List.Pairwise.filter _ ?_
  rw [List.pairwise_map]
  exact List.pairwise_lt_range.imp fun h => by omega
theorem numsB_mem {p : Int → Bool} {m : Nat} {t : Int} : t ∈ numsB p m ↔ 0 ≤ t ∧ t < m ∧ p t = true := by
  unfold numsB
  rw [List.mem_filter, List.mem_map]
  constructor
  · rintro ⟨⟨i, hi, rfl⟩, h⟩
    rw [List.mem_range] at hi
    exact ⟨by omega, by omega, h⟩
  · rintro ⟨h1, h2, h3⟩
    exact ⟨⟨t.toNat, List.mem_range.2 (by omega), by omega⟩, h3⟩
theorem r5_full_eq {at' : List Int} (hp : ∀ y ∈ at', 0 ≤ y) {l : List Int} (hs : ∀ s ∈ l, 0 ≤ s ∧ s < at'.length) : numsB (fun r => fitsB at' l (digL at'.sum l.length r)) (at'.sum ^ l.length).toNat = (fullR at' l).2 := by
  have h0 : 0 ≤ at'.sum ^ l.length := Int.pow_nonneg (sum_nn hp)
  refine inc_ext (numsB_inc _ _) (full_inc hp hs) fun t => ?_
  rw [numsB_mem]
  show _ ↔ t ∈ rks at'.sum 0 (colL at' l)
  rw [mem_full hp l hs, fits_cols _ _ _ _ rfl]
  constructor
  · rintro ⟨h1, h2, h3⟩; exact ⟨h1, h3, by omega⟩
  · rintro ⟨h1, h2, h3⟩; exact ⟨h1, by omega, h2⟩
theorem r5FullR_fn (at' : List Int) (st : Int) (l : List Int) (hc : colsB at'.length l = true) (h : SmA at') (hs : at'.sum ≤ 1000) (hn : 1 ≤ at'.sum) :
    Fn Tryz.prog 74 [scp at' st, .pv (ints l)] (relA (fullR at' l)) := by
  have h1 := r5Full_fn at' st l hc h hs hn
  unfold colsB at hc
  rw [Bool.and_eq_true] at hc
  rw [r5_full_eq (fun y hy => (h.2 y hy).1) (insB_at hc.2)] at h1
  exact h1
end Go.Ab
/- Chapter 09: bounds as data; the plain laws of meets, free tuples and contained models. -/
namespace Go.Ab
open Go Go.Proofs
set_option maxRecDepth 20000
set_option maxHeartbeats 4000000
abbrev BndM := RelM × RelM
abbrev encBn (b : BndM) : List PV := [.lit (.int .i64 b.1.1), ints b.1.2, .lit (.int .i64 b.2.1), ints b.2.2]
abbrev bnds (l : List BndM) : PV := .slice 4 (l.map encBn)
def wB (x : BndM) (r : RelM) : Bool := decide (x.1.1 = r.1 ∧ x.2.1 = r.1) && (subL x.1.2 r.2 && subL r.2 x.2.2)
def vB (at' : List Int) (f : FieldM) (x : BndM) : Bool := decide (x.1.1 = f.sorts.length ∧ x.2.1 = f.sorts.length) && (relOk at'.sum x.1 && (relOk at'.sum x.2 && (subL x.1.2 x.2.2 && subL x.2.2 (fullR at' f.sorts).2)))
def undL (x : BndM) : List Int := diffL x.2.2 x.1.2
def freeL : Nat → List BndM → List (Int × Int)
  | _, [] => []
  | i, x :: bs => (undL x).map (fun t => ((i : Int), t)) ++ freeL (i + 1) bs
def alikeB (x y : BndM) : Bool := decide (x.2.1 = x.1.1 ∧ y.1.1 = x.1.1 ∧ y.2.1 = x.1.1)
def okB (z : BndM) : Bool := subL z.1.2 z.2.2
theorem subL_iff {a b : List Int} : subL a b = true ↔ ∀ t ∈ a, t ∈ b := by
  unfold subL; rw [List.all_eq_true]; simp
theorem mem_diff {a b : List Int} {t : Int} : t ∈ diffL a b ↔ t ∈ a ∧ t ∉ b := by
  unfold diffL; rw [List.mem_filter]; simp
theorem diff_inc {a b : List Int} (h : Inc a) : Inc (diffL a b) := h.sublist (List.filter_sublist)
structure Rising (x : BndM) : Prop where
  low : Inc x.1.2
  high : Inc x.2.2
  sub : ∀ t ∈ x.1.2, t ∈ x.2.2
  ar : x.2.1 = x.1.1
theorem relOk_iff {n : Int} {r : RelM} : relOk n r = true ↔ (0 ≤ n ∧ n ≤ 12 ∧ 1 ≤ r.1 ∧ r.1 ≤ 3) ∧ Inc r.2 ∧ ∀ t ∈ r.2, 0 ≤ t ∧ t < n ^ r.1.toNat := by
  unfold relOk
  rw [Bool.and_eq_true, decide_eq_true_eq, incrB_at (by omega)]
  refine and_congr_right fun _ => ?_
  constructor
  · intro h
    constructor
    · show List.Pairwise _ _
      rw [List.pairwise_iff_getElem]
      have key : ∀ d i (h2 : i + d + 1 < r.2.length), r.2[i] < r.2[i + d + 1] := by
        intro d
        induction d with
        | zero => intro i h2; exact (h (i + 0 + 1) h2).2.2.2 (by omega)
        | succ d ih =>
          intro i h2
          have h3 := ih i (by omega)
          have h4 := (h (i + (d + 1) + 1) h2).2.2.2 (by omega)
          have e : i + (d + 1) + 1 - 1 = i + d + 1 := by omega
          simp only [e] at h4
          omega
      intro i j hi hj hij
      have := key (j - i - 1) i (by omega)
      have e : i + (j - i - 1) + 1 = j := by omega
      simp only [e] at this
      exact this
    · intro t ht
      obtain ⟨j, hj, rfl⟩ := List.getElem_of_mem ht
      exact ⟨(h j hj).2.1, (h j hj).2.2.1⟩
  · rintro ⟨h1, h2⟩ j hj
    have h3 := h2 _ (List.getElem_mem hj)
    exact ⟨by omega, h3.1, h3.2, fun h0 => List.pairwise_iff_getElem.1 h1 (j - 1) j (by omega) hj (by omega)⟩
end Go.Ab
/- Chapter 09: within, Equal, Contains, Valid. -/
namespace Go.Ab
open Go Go.Proofs
set_option maxRecDepth 20000
set_option maxHeartbeats 4000000
attribute [local irreducible] AW AOps thenD inBlockD AR iterEnds roundEndsN inlEnds noGotoD canon diffL interL subL relOk
end Go.Ab
/- Chapter 09: Contains, Valid. -/
namespace Go.Ab
open Go Go.Proofs
set_option maxRecDepth 20000
set_option maxHeartbeats 4000000
attribute [local irreducible] AW AOps thenD inBlockD AR iterEnds roundEndsN inlEnds noGotoD canon diffL interL subL relOk wB
theorem full_ok {at' : List Int} {l : List Int} (hc : colsB at'.length l = true) (h : SmA at') (hsm : at'.sum ≤ 12) : relOk at'.sum (fullR at' l) = true := by
  have hp : ∀ y ∈ at', 0 ≤ y := fun y hy => (h.2 y hy).1
  unfold colsB at hc
  rw [Bool.and_eq_true, decide_eq_true_eq] at hc
  have hin := insB_at hc.2
  rw [relOk_iff]
  refine ⟨⟨sum_nn hp, hsm, by show (1 : Int) ≤ (l.length : Int); omega, by show (l.length : Int) ≤ 3; omega⟩, full_inc hp hin, fun t ht => ?_⟩
  have := (mem_full hp l hin t).1 ht
  show 0 ≤ t ∧ t < at'.sum ^ (l.length : Int).toNat
  rw [Int.toNat_natCast]
  exact ⟨this.1, this.2.2⟩
end Go.Ab
/- Chapter 09: the widest bounds, of the program and of the reference. -/
namespace Go.Ab
open Go Go.Proofs
open Nat (reduceAdd reduceSub)
set_option maxRecDepth 20000
set_option maxHeartbeats 4000000
def defB (at' : List Int) (f : FieldM) : BndM := (((f.sorts.length : Int), []), fullR at' f.sorts)
def defM (at' : List Int) (fs : List FieldM) : List BndM := fs.map (defB at')
theorem defM_snoc {at' : List Int} {fs : List FieldM} {k : Nat} (hk : k < fs.length) : defM at' (fs.take (k + 1)) = defM at' (fs.take k) ++ [defB at' fs[k]] := by
  unfold defM
  rw [take_succ_get hk, List.map_append]; rfl
theorem defM_len (at' : List Int) (fs : List FieldM) (k : Nat) : (defM at' (fs.take k)).length ≤ k := by
  unfold defM
  rw [List.length_map, List.length_take]; omega
attribute [local irreducible] AW AOps thenD inBlockD AR iterEnds roundEndsN inlEnds noGotoD canon diffL interL subL relOk rks
theorem r9default_fn (s : SpecM) (at' : List Int) (st : Int) (hcols : ∀ f ∈ s.fields, colsB at'.length f.sorts = true) (hfs : s.fields.length ≤ 1000) (h : SmA at') (hsm : at'.sum ≤ 12) (h1 : 1 ≤ at'.sum) : FnO Tryz.prog 25 [spc s, scp at' st] 115 4 ((defM at' s.fields).map encBn) := by
  obtain ⟨so, fs, p, q⟩ := s
  simp only at hcols hfs ⊢
  refine FnO.enter (n := 37) Tryz.func25 rfl rfl rfl rfl rfl (by decide) fun g hro_ hwt_ => ?_; (try refine nz ?_)
  (refine Q105 ?_; refine Q51 ?_; refine Q135 ?_)
  (refine nz ?_; apply AW.loopR [4, 3, 2] [1, 0] (fun k : Nat => ([(5, .own 2 115 4 ((defM at' (fs.take k)).map encBn)), (6, litI k)] : List (Nat × AV))) (fun k : Nat => ([(2, some .row)] : List (Nat × Option Ob))) (fun k : Nat => k ≤ fs.length) (fun k : Nat => fs.length - k) (0); (conv => lhs; simp only [Nf.lpR, Nf.all, Nat.reduceBEq, reduceAdd, reduceSub]); (all_goals skip))
  · exact Nat.zero_le _
  · exact weak rfl (by (refine ⟨.nilown _ _ _ rfl rfl, ?_⟩; refine ⟨.intE (by first | with_reducible rfl | (rfl)), ?_⟩; (iterate 3 refine ⟨.eq rfl rfl, ?_⟩); exact trivial)) (by (refine ⟨.newrow rfl, ?_⟩; refine ⟨.box _ rfl ?_, ?_⟩; refine ⟨.pvE (by first | with_reducible rfl | (rfl)), ?_⟩; refine ⟨.intE (by first | with_reducible rfl | (rfl)), ?_⟩; exact trivial; refine ⟨.box _ rfl ?_, ?_⟩; (iterate 2 refine ⟨.pvE (by first | with_reducible rfl | (rfl)), ?_⟩); (iterate 2 refine ⟨.eq rfl rfl, ?_⟩); (iterate 2 exact trivial))) rfl
  rintro k hk
  have hln := defM_len at' fs k
  by_cases hlt : k < fs.length
  · have hsn := defM_snoc (at' := at') hlt
    have hfu := r5FullR_fn at' st fs[k].sorts (hcols _ (List.getElem_mem hlt)) h (by omega) h1
    (refine Q311 ?_; refine zm ?_; (focus ((with_reducible apply AOps.index_map); (iterate 7 exact rfl); rotate_left; omega)); refine Q191 ?_; refine zn ?_; refine Q5 ?_; refine AW.regionM [0, 1, 2, 3, 4, 5, 6, 7, 8, 9] [] rfl (by assumption) (by kernel_rfl) (by kernel_rfl) rfl ?_; show AOps .held _ _ _ [_, _, _, _, _, _, _, _, _, _] _ _; refine Q319 ?_; refine Q248 ?_; refine nz ?_; refine Q41 ?_; refine Q101 ?_; refine zm ?_; (focus ((with_reducible apply AOps.index_map); (iterate 7 exact rfl); rotate_left; omega)); refine Q191 ?_; refine Q7 ?_; intro k_ hk_; refine nz ?_; refine AR.step1M (i := 10) rfl (by kernel_rfl) rfl ?_; intro g_ hgro_ hw_; refine zP (hfu) ?_; refine Q7 ?_; refine AR.free 11 (by kernel_rfl) rfl rfl rfl (Frees.build 115 [0, 2] rfl rfl rfl rfl rfl rfl rfl rfl) ?_; (try refine nz ?_); refine AR.step1M (i := 12) rfl (by kernel_rfl) rfl ?_; intro g_ hgro_ hw_; (with_reducible apply AOps.nilB); exact rfl; exact rfl; (focus ((repeat (first | exact .nil | apply NilC.here | apply NilC.skip)); done)); refine nz ?_; (focus ((with_reducible apply AOps.bsA (k := 4)); (iterate 6 exact rfl); (focus ((repeat ((any_goals (apply PvR.cons)); (all_goals (try exact rfl)); (all_goals (try (repeat (first | exact PvL.nil | apply PvL.cons)))))); (any_goals (exact PvR.nil)); done)); exact rfl; exact rfl; (try refine nz ?_))); refine Q245 ?_; intro g_ hgro_ hw_; (with_reducible apply AOps.appendS); exact rfl; (first | exact .pv rfl | exact .own rfl | exact .nil rfl); (iterate 9 exact rfl); (first | omega | (simp only [List.length_map, List.length_append, List.length_cons, List.length_nil, List.length_drop, List.length_take, List.length_set, chunk_len]; omega)); refine Q121 ?_; refine Q233 ?_; intro g_ hgro_; show AOps .held _ _ _ [_] _ _; refine AOps.assign_own rfl rfl rfl ?_; refine Q7 ?_; intro k_ hk_; refine nz ?_; refine Q143 ?_)
    exact ⟨k + 1, by omega, by omega, weak rfl (by (refine ⟨.ownE (by first | with_reducible rfl | (first | rfl | (rw [hsn, List.map_append]; rfl))) rfl, ?_⟩; refine ⟨.intE (by first | with_reducible rfl | (first | rfl | (rw [hsn, List.map_append]; rfl))), ?_⟩; (iterate 3 refine ⟨.eq rfl rfl, ?_⟩); exact trivial)) (by (refine ⟨.row rfl, ?_⟩; refine ⟨.box _ rfl ?_, ?_⟩; refine ⟨.pvE (by first | with_reducible rfl | (first | rfl | (rw [hsn, List.map_append]; rfl))), ?_⟩; refine ⟨.intE (by first | with_reducible rfl | (first | rfl | (rw [hsn, List.map_append]; rfl))), ?_⟩; exact trivial; refine ⟨.box _ rfl ?_, ?_⟩; refine ⟨.pvE (by first | with_reducible rfl | (first | rfl | (rw [hsn, List.map_append]; rfl))), ?_⟩; refine ⟨.pvE (by first | with_reducible rfl | (first | rfl | (rw [hsn, List.map_append]; rfl))), ?_⟩; (iterate 2 refine ⟨.eq rfl rfl, ?_⟩); (iterate 2 exact trivial))) rfl⟩
  · rw [take_all (l := fs) (by omega)]
    (refine Q98 ?_; refine Q101 ?_; refine Q86 ?_; refine zd ?_; refine Q44 ?_; refine Q96 ?_)
    ((first | (refine endsO_ret (Res.one (.tmp rfl rfl)) ?_) | (refine endsO_ret (Res.one (.cell1 rfl rfl rfl rfl)) ?_) | (refine endsO_nil (Res.one (.tmp rfl rfl)) ?_)); (rfl))
end Go.Ab
/- Chapter 09: the meet of bounds. -/
namespace Go.Ab
open Go Go.Proofs
set_option maxRecDepth 20000
set_option maxHeartbeats 4000000
attribute [local irreducible] AW AOps thenD inBlockD AR iterEnds roundEndsN inlEnds noGotoD canon diffL interL subL relOk rks alikeB okB
end Go.Ab
/- Chapter 09: the free tuples, by Go's binary search. -/
namespace Go.Ab
open Go Go.Proofs Go.RowKit
open Nat (reduceAdd reduceSub)
set_option maxRecDepth 20000
set_option maxHeartbeats 4000000
def encPr (p : Int × Int) : List PV := [.lit (.int .i64 p.1), .lit (.int .i64 p.2)]
abbrev prs (l : List (Int × Int)) : PV := .slice 2 (l.map encPr)
theorem bsearch_fn (l : List Int) (x : Int) (hl : l.length ≤ 1000000) (h : Inc l) : Fn Tryz.prog 57 [.pv (ints l), litI x] (.tup [.any, litB (decide (x ∈ l))]) where
  enters := enters_of Tryz.func57 rfl (by decide)
  calls := by
    intro N w vals hN hs hargs
    have hs : vals.size = 2 := hs
    obtain ⟨v0, v1, rfl⟩ : ∃ v0 v1, vals = #[v0, v1] := by
      rcases vals with ⟨_ | ⟨v0, _ | ⟨v1, _ | _⟩⟩⟩ <;> simp at hs
      exact ⟨v0, v1, rfl⟩
    have h0 := hargs 0 v0 _ rfl rfl
    have h1 := (hargs 1 v1 _ rfl rfl).lit
    subst h1
    have hcn : ∀ k : List Int, (k.contains x) = decide (x ∈ k) := fun k => by simp
    have h0 := h0.pv_inv
    cases h0 with
    | @slice a len cap k els b off vs hln hcap hb ha hk hc hr =>
      rw [List.length_map] at hln
      subst hln
      by_cases hnil : l = []
      · subst hnil
        refine (Tryz.slices_BinarySearch_int_empty a cap x w).mono fun e w' ⟨he, hw⟩ => ⟨_, he, ?_, hw ▸ Below.refl _ _⟩
        exact .tup rfl fun j u c h1 h2 => by
          match j, h1, h2 with
          | 0, h1, h2 => cases h2; exact .any _
          | 1, h1, h2 => cases h1; cases h2; exact .pv (.lit _)
      · have hab := ha (by simpa using hnil)
        obtain ⟨rfl, _, _⟩ := hab
        have hcell : ∀ j, j < l.length → w.cell? ⟨b, off + j, none⟩ = some (.int .i64 (l.getD j 0)) := by
          intro j hj
          have hp : cellAt (l.map encI) j 0 = some (.lit (.int .i64 l[j])) := by simp [cellAt, encI, hj]
          have h2 := hr j 0 _ hp
          have h3 := (hc j 0 _ hp).1
          generalize vs j 0 = u at h2 h3
          cases h2
          rw [Nat.mul_one, Nat.add_zero] at h3
          rw [h3, getD_at hj]
        refine (Tryz.slices_BinarySearch_int b off l.length cap l x w (Nat.le_refl _) (by omega) hcell (by rw [List.take_length]; exact h.imp (fun h => by omega))).mono fun e w' ⟨he, q, hw⟩ => ⟨_, he, ?_, hw ▸ below_drewN (Below.refl _ _) q⟩
        exact .tup rfl fun j u c h1 h2 => by
          match j, h1, h2 with
          | 0, h1, h2 => cases h2; exact .any _
          | 1, h1, h2 =>
            cases h1; cases h2
            rw [List.take_length, hcn]
            exact .pv (.lit _)
def freeO (i : Nat) (l : List Int) : List (Int × Int) := l.map fun t => ((i : Int), t)
theorem undL_snoc {x : BndM} {k : Nat} (hk : k < x.2.2.length) : diffL (x.2.2.take (k + 1)) x.1.2 = diffL (x.2.2.take k) x.1.2 ++ if x.2.2[k] ∉ x.1.2 then [x.2.2[k]] else [] := diffL_snoc hk
theorem freeL_snoc : ∀ (bs : List BndM) (i k : Nat) (hk : k < bs.length), freeL i (bs.take (k + 1)) = freeL i (bs.take k) ++ freeO (i + k) (undL bs[k])
  | [], _, k, hk => by simp at hk
  | x :: bs, i, 0, _ => by
    show (undL x).map _ ++ [] = [] ++ _
    rw [List.append_nil]; rfl
  | x :: bs, i, k + 1, hk => by
    show (undL x).map _ ++ freeL (i + 1) (bs.take (k + 1)) = ((undL x).map _ ++ freeL (i + 1) (bs.take k)) ++ freeO (i + (k + 1)) (undL (bs[k]'(by simpa using hk)))
    rw [freeL_snoc bs (i + 1) k (by simpa using hk), List.append_assoc, show i + 1 + k = i + (k + 1) by omega]
theorem freeL_len : ∀ (bs : List BndM) (i k : Nat), (∀ x ∈ bs, x.2.2.length ≤ 100000) → (freeL i (bs.take k)).length ≤ k * 100000
  | [], i, k, _ => by simp [freeL]
  | x :: bs, i, 0, _ => by simp [freeL]
  | x :: bs, i, k + 1, h => by
    show ((undL x).map _ ++ freeL (i + 1) (bs.take k)).length ≤ _
    have h1 := freeL_len bs (i + 1) k fun x hx => h x (by simp [hx])
    have h2 := h x (by simp)
    have h3 : (undL x).length ≤ x.2.2.length := List.length_filter_le _ _
    simp only [List.length_append, List.length_map]
    omega
attribute [local irreducible] AW AOps thenD inBlockD AR iterEnds roundEndsN inlEnds noGotoD canon diffL interL subL relOk rks freeL
theorem free_fn (bs : List BndM) (hb : bs.length ≤ 1000) (hb2 : ∀ x ∈ bs, x.1.2.length ≤ 100000 ∧ x.2.2.length ≤ 100000 ∧ Inc x.1.2) : Fn Tryz.prog 92 [.pv (bnds bs)] (.pv (prs (freeL 0 bs))) := by
  refine Fn.enter (n := 25) Tryz.func92 rfl rfl rfl rfl rfl (by decide) fun g hro_ hwt_ => ?_; (try refine nz ?_)
  (refine Q177 ?_; refine Q9 ?_; refine zd ?_; refine Q98 ?_; refine zn ?_; refine Q226 ?_)
  (refine nz ?_; apply AW.loopR [8, 7, 3, 2] [] (fun k : Nat => ([(9, litI k)] : List (Nat × AV))) (fun k : Nat => ([(0, some (.box [.own 1 147 2 ((freeL 0 (bs.take k)).map encPr)])), (1, some .row)] : List (Nat × Option Ob))) (fun k : Nat => k ≤ bs.length) (fun k : Nat => bs.length - k) (0); (conv => lhs; simp only [Nf.lpR, Nf.all, Nat.reduceBEq, reduceAdd, reduceSub]); (all_goals skip))
  · exact Nat.zero_le _
  · exact weak rfl (by (refine ⟨.intE (by first | with_reducible rfl | (first | rfl | simp [freeL])), ?_⟩; refine ⟨.intE (by first | with_reducible rfl | (first | rfl | simp [freeL])), ?_⟩; refine ⟨.pvE (by first | with_reducible rfl | (first | rfl | simp [freeL])), ?_⟩; (iterate 2 refine ⟨.eq rfl rfl, ?_⟩); exact trivial)) (by (refine ⟨.box _ rfl ?_, ?_⟩; refine ⟨.nilownE (by first | rfl | simp [freeL]) rfl rfl, ?_⟩; exact trivial; refine ⟨.newrow rfl, ?_⟩; exact trivial)) rfl
  rintro k hk
  have hfl := freeL_len bs 0 k fun x hx => (hb2 x hx).2.1
  by_cases hlt : k < bs.length
  · have hsn := freeL_snoc bs 0 k hlt
    rw [Nat.zero_add] at hsn
    obtain ⟨hx1, hx2, hx3⟩ := hb2 _ (List.getElem_mem hlt)
    have hbs := fun t => bsearch_fn bs[k].1.2 t (by omega) hx3
    have hdl0 := fun i => diffL_len bs[k].2.2 bs[k].1.2 i
    (refine Q181 ?_; refine zm ?_; (focus ((with_reducible apply AOps.index_map); (iterate 7 exact rfl); rotate_left; omega)); refine Q74 ?_; (iterate 2 refine Q9 ?_); refine Q35 ?_; refine nz ?_; refine Q62 ?_; refine Q326 ?_; refine Q41 ?_; (with_reducible apply AOps.inline (hf := Tryz.func136)); (with_reducible assumption); (iterate 10 exact rfl); intro g_ hro_ hwt_; refine nz ?_; refine Q64 ?_; refine Q51 ?_; refine AOps.makeFunc_c rfl rfl rfl ?_; refine Q203 ?_)
    refine AW.rangeFuncUH (ps := [16]) (by assumption) (by assumption) rfl rfl Tryz.func157 rfl rfl rfl rfl rfl rfl (by decide) ?_
    intro gB tm0 l0 ps0 asg0 body0 hcode0 hroB hwtB hheld0 hupB htm0
    have htm0' : tm0.size = 25 := htm0
    (refine Q4 ?_; refine AOps.fieldAddrN 115 1 2 rfl rfl rfl rfl ?_; refine Q39 ?_; refine zn ?_; refine Q226 ?_)
    (refine nz ?_; apply AW.loopR [10, 9, 0, 1, 1004, 1009, 1008, 1007, 1003, 1002] [5, 4, 3, 2] (fun i : Nat => ([(11, litI i)] : List (Nat × AV))) (fun i : Nat => ([(0, some (.box [.own 1 147 2 ((freeL 0 (bs.take k) ++ freeO k (diffL (bs[k].2.2.take i) bs[k].1.2)).map encPr)])), (1, some .row)] : List (Nat × Option Ob))) (fun i : Nat => i ≤ bs[k].2.2.length) (fun i : Nat => bs[k].2.2.length - i) (0); (conv => lhs; simp only [Nf.lpR, Nf.all, Nat.reduceBEq, reduceAdd, reduceSub]); (all_goals skip))
    · exact Nat.zero_le _
    · exact weak rfl (by (refine ⟨.intE (by first | with_reducible rfl | (first | rfl | simp [freeO, diffL])), ?_⟩; refine ⟨.intE (by first | with_reducible rfl | (first | rfl | simp [freeO, diffL])), ?_⟩; refine ⟨.pvE (by first | with_reducible rfl | (first | rfl | simp [freeO, diffL])), ?_⟩; (iterate 3 refine ⟨.eq rfl rfl, ?_⟩); (iterate 2 refine ⟨.intE (by first | with_reducible rfl | (first | rfl | simp [freeO, diffL])), ?_⟩); refine ⟨.pvE (by first | with_reducible rfl | (first | rfl | simp [freeO, diffL])), ?_⟩; (iterate 2 refine ⟨.eq rfl rfl, ?_⟩); exact trivial)) (by (refine ⟨.box _ rfl ?_, ?_⟩; refine ⟨.ownE (by first | with_reducible rfl | (first | rfl | simp [freeO, diffL])) rfl, ?_⟩; exact trivial; refine ⟨.row rfl, ?_⟩; refine ⟨.loop rfl, ?_⟩; refine ⟨.box _ rfl ?_, ?_⟩; refine ⟨.intE (by first | with_reducible rfl | (first | rfl | simp [freeO, diffL])), ?_⟩; refine ⟨.pvE (by first | with_reducible rfl | (first | rfl | simp [freeO, diffL])), ?_⟩; refine ⟨.intE (by first | with_reducible rfl | (first | rfl | simp [freeO, diffL])), ?_⟩; refine ⟨.pvE (by first | with_reducible rfl | (first | rfl | simp [freeO, diffL])), ?_⟩; exact trivial; refine ⟨.box _ rfl ?_, ?_⟩; refine ⟨.intE (by first | with_reducible rfl | (first | rfl | simp [freeO, diffL])), ?_⟩; refine ⟨.pvE (by first | with_reducible rfl | (first | rfl | simp [freeO, diffL])), ?_⟩; refine ⟨.intE (by first | with_reducible rfl | (first | rfl | simp [freeO, diffL])), ?_⟩; refine ⟨.pvE (by first | with_reducible rfl | (first | rfl | simp [freeO, diffL])), ?_⟩; exact trivial; refine ⟨.box _ rfl ?_, ?_⟩; refine ⟨.intE (by first | with_reducible rfl | (first | rfl | simp [freeO, diffL])), ?_⟩; (iterate 2 exact trivial))) rfl
    rintro i hi
    have hdl := hdl0 i
    have hfo : (freeO k (diffL (bs[k].2.2.take i) bs[k].1.2)).length ≤ i := by unfold freeO; rw [List.length_map]; exact hdl
    by_cases hlt2 : i < bs[k].2.2.length
    · have hs2 := undL_snoc (x := bs[k]) hlt2
      have hbi := hbs bs[k].2.2[i]
      by_cases hm : bs[k].2.2[i] ∈ bs[k].1.2
      · rw [decide_eq_true hm] at hbi
        rw [if_neg (fun h => h hm), List.append_nil] at hs2
        (refine Q181 ?_; (focus ((with_reducible apply AOps.index_map); (iterate 7 exact rfl); rotate_left; omega)); refine Q286 ?_; (iterate 4 refine AOps.guard_lf rfl rfl rfl rfl rfl rfl rfl ?_); refine AOps.pick_lf rfl rfl rfl rfl rfl rfl ?_; refine Q45 ?_; refine Q110 ?_)
        exact ⟨i + 1, by omega, by omega, weak rfl (by (refine ⟨.intE (by first | with_reducible rfl | (first | rfl | (rw [hs2]))), ?_⟩; refine ⟨.intE (by first | with_reducible rfl | (first | rfl | (rw [hs2]))), ?_⟩; refine ⟨.pvE (by first | with_reducible rfl | (first | rfl | (rw [hs2]))), ?_⟩; (iterate 3 refine ⟨.eq rfl rfl, ?_⟩); refine ⟨.intE (by first | with_reducible rfl | (first | rfl | (rw [hs2]))), ?_⟩; refine ⟨.intE (by first | with_reducible rfl | (first | rfl | (rw [hs2]))), ?_⟩; refine ⟨.pvE (by first | with_reducible rfl | (first | rfl | (rw [hs2]))), ?_⟩; (iterate 2 refine ⟨.eq rfl rfl, ?_⟩); exact trivial)) (by (refine ⟨.box _ rfl ?_, ?_⟩; refine ⟨.ownE (by first | with_reducible rfl | (first | rfl | (rw [hs2]))) rfl, ?_⟩; exact trivial; refine ⟨.row rfl, ?_⟩; refine ⟨.loop rfl, ?_⟩; refine ⟨.box _ rfl ?_, ?_⟩; refine ⟨.intE (by first | with_reducible rfl | (first | rfl | (rw [hs2]))), ?_⟩; refine ⟨.pvE (by first | with_reducible rfl | (first | rfl | (rw [hs2]))), ?_⟩; refine ⟨.intE (by first | with_reducible rfl | (first | rfl | (rw [hs2]))), ?_⟩; refine ⟨.pvE (by first | with_reducible rfl | (first | rfl | (rw [hs2]))), ?_⟩; exact trivial; refine ⟨.box _ rfl ?_, ?_⟩; refine ⟨.intE (by first | with_reducible rfl | (first | rfl | (rw [hs2]))), ?_⟩; refine ⟨.pvE (by first | with_reducible rfl | (first | rfl | (rw [hs2]))), ?_⟩; refine ⟨.intE (by first | with_reducible rfl | (first | rfl | (rw [hs2]))), ?_⟩; refine ⟨.pvE (by first | with_reducible rfl | (first | rfl | (rw [hs2]))), ?_⟩; exact trivial; refine ⟨.box _ rfl ?_, ?_⟩; refine ⟨.intE (by first | with_reducible rfl | (first | rfl | (rw [hs2]))), ?_⟩; (iterate 2 exact trivial))) rfl⟩
      · rw [decide_eq_false hm] at hbi
        rw [if_pos hm] at hs2
        (refine Q181 ?_; (focus ((with_reducible apply AOps.index_map); (iterate 7 exact rfl); rotate_left; omega)); refine Q286 ?_; refine zl ?_; refine AOps.move rfl rfl rfl ?_; refine nz ?_; refine Q92 ?_; (with_reducible apply AOps.yieldN0 hcode0 hwtB hheld0 htm0'); (iterate 8 exact rfl); intro gR hroR_ hwtR hupR; (try refine nz ?_); refine AW.region ?_; refine Q5 ?_; refine And.intro (show isLp _ _ _ _ from ⟨_, _, _, _, rfl⟩) ?_; (try refine nz ?_); refine AW.block ?_; refine AW.region ?_; (iterate 2 refine zb ?_); refine zm ?_; refine AOps.ba2 rfl rfl rfl rfl rfl rfl rfl rfl rfl rfl rfl rfl ?_; refine AOps.bs1a2 rfl rfl rfl rfl rfl rfl rfl rfl rfl ?_; refine nz ?_; (with_reducible apply AOps.appendS); exact rfl; (first | exact .pv rfl | exact .own rfl | exact .nil rfl); (iterate 9 exact rfl); (first | omega | (simp only [List.length_map, List.length_append, List.length_cons, List.length_nil, List.length_drop, List.length_take, List.length_set, chunk_len]; omega)); refine nz ?_; refine Q35 ?_; refine nz ?_; refine AOps.nil ?_; refine inBlockD_n ?_; (with_reducible apply roundEndsN_n); exact ⟨_, _, _, _, rfl⟩; refine nz ?_; refine Q176 ?_; refine Q45 ?_; refine Q110 ?_)
        exact ⟨i + 1, by omega, by omega, weak rfl (by (refine ⟨.intE (by first | with_reducible rfl | (first | rfl | (rw [hs2]; unfold freeO; simp [encPr]))), ?_⟩; refine ⟨.intE (by first | with_reducible rfl | (first | rfl | (rw [hs2]; unfold freeO; simp [encPr]))), ?_⟩; refine ⟨.pvE (by first | with_reducible rfl | (first | rfl | (rw [hs2]; unfold freeO; simp [encPr]))), ?_⟩; (iterate 3 refine ⟨.eq rfl rfl, ?_⟩); refine ⟨.intE (by first | with_reducible rfl | (first | rfl | (rw [hs2]; unfold freeO; simp [encPr]))), ?_⟩; refine ⟨.intE (by first | with_reducible rfl | (first | rfl | (rw [hs2]; unfold freeO; simp [encPr]))), ?_⟩; refine ⟨.pvE (by first | with_reducible rfl | (first | rfl | (rw [hs2]; unfold freeO; simp [encPr]))), ?_⟩; (iterate 2 refine ⟨.eq rfl rfl, ?_⟩); exact trivial)) (by (refine ⟨.box _ rfl ?_, ?_⟩; refine ⟨.ownE (by first | with_reducible rfl | (first | rfl | (rw [hs2]; unfold freeO; simp [encPr]))) rfl, ?_⟩; exact trivial; refine ⟨.row rfl, ?_⟩; refine ⟨.loop rfl, ?_⟩; refine ⟨.box _ rfl ?_, ?_⟩; refine ⟨.intE (by first | with_reducible rfl | (first | rfl | (rw [hs2]; unfold freeO; simp [encPr]))), ?_⟩; refine ⟨.pvE (by first | with_reducible rfl | (first | rfl | (rw [hs2]; unfold freeO; simp [encPr]))), ?_⟩; refine ⟨.intE (by first | with_reducible rfl | (first | rfl | (rw [hs2]; unfold freeO; simp [encPr]))), ?_⟩; refine ⟨.pvE (by first | with_reducible rfl | (first | rfl | (rw [hs2]; unfold freeO; simp [encPr]))), ?_⟩; exact trivial; refine ⟨.box _ rfl ?_, ?_⟩; refine ⟨.intE (by first | with_reducible rfl | (first | rfl | (rw [hs2]; unfold freeO; simp [encPr]))), ?_⟩; refine ⟨.pvE (by first | with_reducible rfl | (first | rfl | (rw [hs2]; unfold freeO; simp [encPr]))), ?_⟩; refine ⟨.intE (by first | with_reducible rfl | (first | rfl | (rw [hs2]; unfold freeO; simp [encPr]))), ?_⟩; refine ⟨.pvE (by first | with_reducible rfl | (first | rfl | (rw [hs2]; unfold freeO; simp [encPr]))), ?_⟩; exact trivial; refine ⟨.box _ rfl ?_, ?_⟩; refine ⟨.intE (by first | with_reducible rfl | (first | rfl | (rw [hs2]; unfold freeO; simp [encPr]))), ?_⟩; (iterate 2 exact trivial))) rfl⟩
    · rw [take_all (l := bs[k].2.2) (by omega)]
      (refine Q52 ?_; refine Q201 ?_; refine iterEndsN_ready (.inl rfl) rfl ?_; (try refine nz ?_); (iterate 2 refine inBlockD_n ?_); refine thenD_n ?_; refine AW.region ?_; refine zj ?_; refine zm ?_; refine zd ?_)
      exact ⟨k + 1, by omega, by omega, weak rfl (by (refine ⟨.intE (by first | with_reducible rfl | (first | rfl | (rw [hsn]; rfl))), ?_⟩; refine ⟨.intE (by first | with_reducible rfl | (first | rfl | (rw [hsn]; rfl))), ?_⟩; refine ⟨.pvE (by first | with_reducible rfl | (first | rfl | (rw [hsn]; rfl))), ?_⟩; (iterate 2 refine ⟨.eq rfl rfl, ?_⟩); exact trivial)) (by (refine ⟨.box _ rfl ?_, ?_⟩; refine ⟨.ownE (by first | with_reducible rfl | (first | rfl | (rw [hsn]; rfl))) rfl, ?_⟩; exact trivial; refine ⟨.row rfl, ?_⟩; exact trivial)) rfl⟩
  · rw [take_all (l := bs) (by omega)]
    (refine Q52 ?_; refine Q44 ?_; refine zb ?_; refine Q294 ?_)
    (apply ends_ret; (exact Res.one (.tmp rfl rfl)); (exact Le.own _ _ _ _ rfl))
end Go.Ab
/- Chapter 09: the laws' own functions: small examples, what is examined, bounds made of raw data. -/
namespace Go.Ab
open Go Go.Proofs
set_option maxRecDepth 20000
set_option maxHeartbeats 4000000
def encU (x : Int) : List PV := [.lit (.int .u8 x)]
def encUs (l : List Int) : List PV := [.slice 1 (l.map encU)]
abbrev raws (r : List (List Int)) : PV := .slice 1 (r.map encUs)
def selL (q : Nat → Bool) : Nat → List Int → List Int
  | _, [] => []
  | i, t :: ts => (if q i = true then [t] else []) ++ selL q (i + 1) ts
theorem selL_snoc {q : Nat → Bool} : ∀ {l : List Int} {i k : Nat} (hk : k < l.length), selL q i (l.take (k + 1)) = selL q i (l.take k) ++ if q (i + k) = true then [l[k]] else []
  | [], i, k, hk => by simp at hk
  | t :: ts, i, 0, _ => by
    show (if q i = true then [t] else []) ++ [] = [] ++ if q i = true then [t] else []
    rw [List.append_nil, List.nil_append]
  | t :: ts, i, k + 1, hk => by
    have ih := selL_snoc (q := q) (l := ts) (i := i + 1) (k := k) (by simpa using hk)
    show (if q i = true then [t] else []) ++ selL q (i + 1) (ts.take (k + 1)) = ((if q i = true then [t] else []) ++ selL q (i + 1) (ts.take k)) ++ if q (i + (k + 1)) = true then [(t :: ts)[k + 1]] else []
    rw [ih, List.append_assoc, show i + 1 + k = i + (k + 1) by omega]
    rfl
theorem selL_len (q : Nat → Bool) : ∀ (l : List Int) (i : Nat), (selL q i l).length ≤ l.length
  | [], _ => Nat.le_refl _
  | t :: ts, i => by
    show ((if q i = true then [t] else []) ++ selL q (i + 1) ts).length ≤ ts.length + 1
    have := selL_len q ts (i + 1)
    rw [List.length_append]
    split
    · simp; omega
    · simp; omega
def bitU (row : List Int) (k : Nat) : Int := if h : k < row.length then row[k] % 4 else 1
def lowL (row : List Int) (l : List Int) : List Int := selL (fun k => decide (1 < bitU row k)) 0 l
def highL (row : List Int) (l : List Int) : List Int := selL (fun k => decide (0 < bitU row k)) 0 l
theorem lowL_snoc {row l : List Int} {k : Nat} (hk : k < l.length) : lowL row (l.take (k + 1)) = lowL row (l.take k) ++ if 1 < bitU row k then [l[k]] else [] := by
  unfold lowL
  rw [selL_snoc hk]
  simp
theorem highL_snoc {row l : List Int} {k : Nat} (hk : k < l.length) : highL row (l.take (k + 1)) = highL row (l.take k) ++ if 0 < bitU row k then [l[k]] else [] := by
  unfold highL
  rw [selL_snoc hk]
  simp
def madeB (at' : List Int) (f : FieldM) (row : List Int) : BndM := (((f.sorts.length : Int), lowL row (fullR at' f.sorts).2), ((f.sorts.length : Int), highL row (fullR at' f.sorts).2))
def madeL (at' : List Int) (raw : List (List Int)) : Nat → List FieldM → List BndM
  | _, [] => []
  | i, f :: fs => madeB at' f (raw.getD i []) :: madeL at' raw (i + 1) fs
theorem madeL_len (at' : List Int) (raw : List (List Int)) : ∀ (fs : List FieldM) (i : Nat), (madeL at' raw i fs).length = fs.length
  | [], _ => rfl
  | f :: fs, i => by show (madeL at' raw (i + 1) fs).length + 1 = fs.length + 1; rw [madeL_len at' raw fs]
theorem madeL_at (at' : List Int) (raw : List (List Int)) : ∀ (fs : List FieldM) (i k : Nat) (hk : k < fs.length), (madeL at' raw i fs)[k]'(by rw [madeL_len]; exact hk) = madeB at' fs[k] (raw.getD (i + k) [])
  | [], _, _, hk => by simp at hk
  | f :: fs, i, 0, _ => rfl
  | f :: fs, i, k + 1, hk => by
    have := madeL_at at' raw fs (i + 1) k (by simpa using hk)
    show (madeL at' raw (i + 1) fs)[k]'_ = madeB at' (fs[k]'(by simpa using hk)) _
    rw [this, show i + 1 + k = i + (k + 1) by omega]
def mixL (at' : List Int) (raw : List (List Int)) (fs : List FieldM) (i : Nat) : List BndM := (madeL at' raw 0 fs).take i ++ (defM at' fs).drop i
theorem mixL_len {at' : List Int} {raw : List (List Int)} {fs : List FieldM} {i : Nat} (hi : i ≤ fs.length) : (mixL at' raw fs i).length = fs.length := by
  unfold mixL defM
  rw [List.length_append, List.length_take, madeL_len, List.length_drop, List.length_map]; omega
theorem mixL_at {at' : List Int} {raw : List (List Int)} {fs : List FieldM} {i : Nat} (hi : i < fs.length) : (mixL at' raw fs i)[i]'(by rw [mixL_len (by omega)]; exact hi) = defB at' fs[i] := by
  unfold mixL
  rw [List.getElem_append_right (by rw [List.length_take, madeL_len]; omega)]
  simp only [List.length_take, madeL_len, List.getElem_drop, defM, List.getElem_map]
  congr 2
  omega
theorem mixL_set {at' : List Int} {raw : List (List Int)} {fs : List FieldM} {i : Nat} (hi : i < fs.length) : (mixL at' raw fs i).set i (madeB at' fs[i] (raw.getD i [])) = mixL at' raw fs (i + 1) := by
  have h1 : i < (madeL at' raw 0 fs).length := by rw [madeL_len]; exact hi
  have h2 : i < (defM at' fs).length := by unfold defM; rw [List.length_map]; exact hi
  have h3 := madeL_at at' raw fs 0 i hi
  rw [Nat.zero_add] at h3
  unfold mixL
  rw [take_succ_get h1, h3, List.drop_eq_getElem_cons h2, List.set_append_right _ _ (by rw [List.length_take]; omega)]
  rw [List.length_take, Nat.min_eq_left (by omega), Nat.sub_self, List.set_cons_zero, List.append_assoc]
  rfl
theorem mixL_zero (at' : List Int) (raw : List (List Int)) (fs : List FieldM) : mixL at' raw fs 0 = defM at' fs := by unfold mixL; simp
theorem mixL_all (at' : List Int) (raw : List (List Int)) (fs : List FieldM) : mixL at' raw fs fs.length = madeL at' raw 0 fs := by
  unfold mixL defM
  rw [List.take_of_length_le (by rw [madeL_len]; omega), List.drop_eq_nil_of_le (by simp), List.append_nil]
attribute [local irreducible] AW AOps thenD inBlockD AR iterEnds roundEndsN inlEnds noGotoD canon diffL interL subL relOk rks lowL highL bitU mixL
theorem r5Valid_fn (s : SpecM) (at' : List Int) (st : Int) : Fn Tryz.prog 83 [spc s, scp at' st] (litB (decide (s.sorts.length = at'.length) && sizedB at' st)) := by
  obtain ⟨so, fs, p, q⟩ := s
  have hs := r5Sized_fn at' st
  simp only
  by_cases hl : so.length = at'.length
  · rw [decide_eq_true hl, Bool.true_and]
    refine Fn.enter (n := 16) Tryz.func83 rfl rfl rfl rfl rfl (by decide) fun g hro_ hwt_ => ?_; (try refine nz ?_)
    (refine Q306 ?_; refine zm ?_; refine zt ?_; refine Q41 ?_; refine zt ?_; refine zA (hs) ?_; refine zT ?_; refine Q42 ?_)
    (apply ends_ret; (exact Res.one (.tmp rfl rfl)); (refine Le.litB ?_; (rfl)))
  · rw [decide_eq_false hl, Bool.false_and]
    refine Fn.enter (n := 16) Tryz.func83 rfl rfl rfl rfl rfl (by decide) fun g hro_ hwt_ => ?_; (try refine nz ?_)
    (refine Q306 ?_; refine zm ?_; (iterate 2 refine AOps.guardTn rfl rfl rfl rfl rfl rfl (by first | omega | decide) ?_); refine zF ?_; refine Q42 ?_)
    (apply ends_ret; (exact Res.one (.tmp rfl rfl)); (refine Le.litB ?_; (rfl)))
end Go.Ab
