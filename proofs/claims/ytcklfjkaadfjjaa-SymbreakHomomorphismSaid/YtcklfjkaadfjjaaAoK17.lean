/- Chapter 24: Breaking, walked. -/
import Derived.Test.YtcklfjkaadfjjaaAoJ
import Derived.Test.YtcklfjkaadfjjaaAbL3
import Derived.Test.YtcklfjkaadfjjaaAoD7
import Derived.Test.YtcklfjkaadfjjaaAbL2
import Derived.Test.YtcklfjkaadfjjaaAoK14
set_option linter.unusedSimpArgs false
set_option linter.unusedVariables false
namespace Go.Ab
open Go Go.Proofs Go.RowKit
open Nat (reduceAdd reduceSub)
set_option maxRecDepth 20000
set_option maxHeartbeats 4000000
attribute [local irreducible] AW AOps thenD inBlockD AR iterEnds roundEndsN inlEnds noGotoD sortL predM andG brkM litV
theorem clone_fnO (l : List Int) (hl : l.length ≤ 1000000) : FnO Try.prog 37 [.pv (ints l)] 3 1 (l.map nI) := by
  rw [show l.map nI = l.map encI from rfl]
  refine FnO.enter (n := 8) Try.func37 rfl rfl rfl rfl rfl (by decide) fun g hro_ hwt_ => ?_; (try refine nz ?_)
  by_cases h0 : l = []
  · subst h0
    have e0 : ([] : List Int).length = 0 := rfl
    (refine zq ?_; refine za ?_; refine zd ?_; refine zo ?_; refine zq ?_; refine nz ?_; refine zm ?_; (focus ((with_reducible apply AOps.eqlNil); (iterate 6 exact rfl); all_goals intro hc_)); refine zd ?_; refine AW.cond_lt rfl rfl ?_; refine zq ?_; refine nz ?_; refine za ?_; refine zd ?_; refine AW.ret ?_; refine thenD_ret ?_; (all_goals skip); rotate_left; refine zd ?_; refine AW.cond_lf rfl rfl ?_; refine AW.skip ?_; refine thenD_n ?_; refine zq ?_; refine nz ?_; refine AOps.bs0 rfl rfl rfl rfl rfl ?_; refine nz ?_; refine zm ?_; (with_reducible apply AOps.appendS); exact rfl; (first | exact .pv rfl | exact .own rfl | exact .nil rfl); (iterate 9 exact rfl); (first | omega | (simp only [List.length_map, List.length_append, List.length_cons, List.length_nil, List.length_drop, List.length_take, List.length_set, chunk_len]; omega)); refine nz ?_; refine AOps.assign_own rfl rfl rfl ?_; refine zd ?_; refine AW.ret ?_; (all_goals skip); rotate_left)
    all_goals ((first | (refine endsO_ret (Res.one (.tmp rfl rfl)) ?_) | (refine endsO_ret (Res.one (.cell1 rfl rfl rfl rfl)) ?_) | (refine endsO_nil (Res.one (.tmp rfl rfl)) ?_)); (first | rfl | simp))
  · have e0 : 0 < l.length := List.length_pos_iff.2 h0
    have e1 : ¬ l.map encI = [] := by simpa using h0
    clear h0
    (refine zq ?_; refine za ?_; refine zd ?_; refine zo ?_; refine zq ?_; refine nz ?_; refine zm ?_; (focus ((with_reducible apply AOps.eqlNil); (iterate 6 exact rfl); all_goals intro hc_)); refine zd ?_; refine AW.cond_lt rfl rfl ?_; refine zq ?_; refine nz ?_; refine za ?_; refine zd ?_; refine AW.ret ?_; refine thenD_ret ?_; (all_goals skip); rotate_left; refine zd ?_; refine AW.cond_lf rfl rfl ?_; refine AW.skip ?_; refine thenD_n ?_; refine zq ?_; refine nz ?_; refine AOps.bs0 rfl rfl rfl rfl rfl ?_; refine nz ?_; refine zm ?_; (with_reducible apply AOps.appendS); exact rfl; (first | exact .pv rfl | exact .own rfl | exact .nil rfl); (iterate 9 exact rfl); (first | omega | (simp only [List.length_map, List.length_append, List.length_cons, List.length_nil, List.length_drop, List.length_take, List.length_set, chunk_len]; omega)); refine nz ?_; refine AOps.assign_own rfl rfl rfl ?_; refine zd ?_; refine AW.ret ?_; (all_goals skip); rotate_left)
    · exact absurd hc_ e1
    · ((first | (refine endsO_ret (Res.one (.tmp rfl rfl)) ?_) | (refine endsO_ret (Res.one (.cell1 rfl rfl rfl rfl)) ?_) | (refine endsO_nil (Res.one (.tmp rfl rfl)) ?_)); (first | rfl | simp))
theorem breaking_fn (s : SpecM) (at' : List Int) (st : Nat) (bs : List BndM) (ps : List (List Int)) (gs : List GateM) (n : Nat) (hc : CirOk gs) (hL : ∀ p ∈ ps, LitOk s st bs p) (hP : ∀ p ∈ ps, PermN n (litV 0 p.length (arF s.fields) st (vrF s.fields) bs p)) (hn : n ≤ 1000) (hg : gs.length + ps.length * (6 * n + 1) < 18000) :
    Fn Try.prog 18 [spc s, scp at' (st : Int), .pv (bnds bs), .pv (intss ps), crc gs] (.tup [crc (brkM gs (ps.map fun p => litV 0 p.length (arF s.fields) st (vrF s.fields) bs p)).1, litI (brkM gs (ps.map fun p => litV 0 p.length (arF s.fields) st (vrF s.fields) bs p)).2]) := by
  have hlit := fun p h => literals_fn s at' st bs p (hL p h)
  obtain ⟨so, fs, pr, fa⟩ := s
  simp only at *
  generalize hlf : (fun p : List Int => litV 0 p.length (arF fs) st (vrF fs) bs p) = lf
  have hlf' : ∀ p, litV 0 p.length (arF fs) st (vrF fs) bs p = lf p := fun p => by rw [← hlf]
  simp only [hlf'] at hlit hP
  generalize hls : ps.map lf = ls
  have hll : ls.length = ps.length := by rw [← hls, List.length_map]
  have hbk := fun k hk => brk_ok hc (ls := ls) (n := n) (by rw [← hls]; intro l hl; obtain ⟨p, hp, rfl⟩ := List.mem_map.1 hl; exact hP p hp) hn (by rw [hll]; exact hg) k hk
  have hpsl : ps.length ≤ 18000 := by
    have := Nat.le_mul_of_pos_right ps.length (show 0 < 6 * n + 1 by omega)
    omega
  refine Fn.enter (n := 58) Try.func18 rfl rfl rfl rfl rfl (by decide) fun g hro_ hwt_ => ?_; (try refine nz ?_)
  (refine zq ?_; refine AOps.box rfl rfl rfl rfl ?_; refine nz ?_; refine AOps.box rfl rfl rfl rfl ?_; refine nz ?_; refine AOps.box rfl rfl rfl rfl ?_; refine nz ?_; refine AOps.allocN' rfl rfl rfl rfl ?_; refine nz ?_; refine za ?_; refine zd ?_; refine zq ?_; refine nz ?_; refine zL ?_; refine nz ?_; refine AOps.buildN 79 [0] rfl rfl rfl rfl rfl rfl rfl rfl rfl ?_; refine nz ?_; refine AOps.box rfl rfl rfl rfl ?_; refine nz ?_; refine AOps.assign_ptr rfl rfl rfl ?_; refine za ?_; refine zd ?_; refine zq ?_; refine nz ?_; refine AOps.move_ptr rfl rfl rfl ?_; refine AOps.makeFunc_f rfl rfl rfl ?_; refine AOps.assign rfl rfl rfl ?_; refine nz ?_; refine zd ?_; refine zo ?_; (with_reducible apply AW.swP 3 12 4 0); (with_reducible assumption); (iterate 3 exact rfl); (conv => rhs; simp only [Nf.swR, Nf.all, Nat.reduceBEq, reduceAdd, reduceSub]); refine zq ?_; refine zm ?_; refine zn ?_; refine zm ?_; refine zd ?_; refine AW.block ?_)
  (refine nz ?_; apply AW.loopR [25, 24, 14, 12, 11, 10, 6, 5, 2] [3, 1, 4] (fun k : Nat => ([(26, litI k), (13, litI (brkM gs (ls.take k)).2)] : List (Nat × AV))) (fun k : Nat => ([(0, some (.box [.pv (gatesV (brkM gs (ls.take k)).1)]))] : List (Nat × Option Ob))) (fun k : Nat => k ≤ ps.length) (fun k : Nat => ps.length - k) (0); (conv => lhs; simp only [Nf.lpR, Nf.all, Nat.reduceBEq, reduceAdd, reduceSub]); (all_goals skip))
  · exact Nat.zero_le _
  · exact weak rfl (by (refine ⟨.intE (by first | with_reducible rfl | (first | rfl | (unfold brkM; rfl))), ?_⟩; refine ⟨.intE (by first | with_reducible rfl | (first | rfl | (unfold brkM; rfl))), ?_⟩; refine ⟨.intE (by first | with_reducible rfl | (first | rfl | (unfold brkM; rfl))), ?_⟩; refine ⟨.pvE (by first | with_reducible rfl | (first | rfl | (unfold brkM; rfl))), ?_⟩; (iterate 2 refine ⟨.eq rfl rfl, ?_⟩); refine ⟨.intE (by first | with_reducible rfl | (first | rfl | (unfold brkM; rfl))), ?_⟩; (iterate 3 refine ⟨.eq rfl rfl, ?_⟩); refine ⟨.pvE (by first | with_reducible rfl | (first | rfl | (unfold brkM; rfl))), ?_⟩; exact trivial)) (by (refine ⟨.box _ rfl ?_, ?_⟩; refine ⟨.pvE (by first | with_reducible rfl | (first | rfl | (unfold brkM; rfl))), ?_⟩; exact trivial; refine ⟨.box _ rfl ?_, ?_⟩; refine ⟨.eq rfl rfl, ?_⟩; exact trivial; refine ⟨.box _ rfl ?_, ?_⟩; refine ⟨.pvE (by first | with_reducible rfl | (first | rfl | (unfold brkM; rfl))), ?_⟩; refine ⟨.intE (by first | with_reducible rfl | (first | rfl | (unfold brkM; rfl))), ?_⟩; exact trivial; refine ⟨.box _ rfl ?_, ?_⟩; refine ⟨.pvE (by first | with_reducible rfl | (first | rfl | (unfold brkM; rfl))), ?_⟩; refine ⟨.pvE (by first | with_reducible rfl | (first | rfl | (unfold brkM; rfl))), ?_⟩; (iterate 2 refine ⟨.eq rfl rfl, ?_⟩); (iterate 2 exact trivial))) rfl
  rintro k hk
  obtain ⟨c0, r0, l0, m0, _, _, _⟩ := hbk k (by omega)
  have hmul : k * (6 * n + 1) ≤ ps.length * (6 * n + 1) := Nat.mul_le_mul_right _ hk
  by_cases hlt : k < ps.length
  · have hmul2 : (k + 1) * (6 * n + 1) ≤ ps.length * (6 * n + 1) := Nat.mul_le_mul_right _ hlt
    rw [Nat.succ_mul] at hmul2
    have hsn := brk_snoc gs (ls := ls) (k := k) (by omega)
    have hlk : ls[k]'(by omega) = lf ps[k] := by subst hls; rw [List.getElem_map]
    rw [hlk] at hsn
    have hm := List.getElem_mem hlt
    have hPk := hP _ hm
    have hl1 := hlit _ hm
    have hso := sort_ord hPk
    have hpl := hPk.len
    generalize lf ps[k] = l at hsn hPk hl1 hso hpl
    have hcl := clone_fnO l (by omega)
    have hq := pred_lead c0 hPk hn (by omega)
    unfold brkS at hsn
    rw [hpl] at hsn hq
    generalize brkM gs (ls.take k) = p at c0 r0 l0 m0 hsn hq ⊢
    obtain ⟨g0, rr⟩ := p
    simp only at c0 r0 l0 m0 hsn hq ⊢
    have hpx := predicate_fn g0 l (ordM n) c0 hPk.ok (by omega) (fun w hw => by rw [hpl]; exact ord_mem.1 hw) (by rw [ord_len]; omega) (by rw [ord_len]; omega)
    generalize predM g0 l (ordM n) = q at hsn hq hpx
    obtain ⟨g1, r1⟩ := q
    obtain ⟨c1, s1, l1, m1, _, _, _⟩ := hq
    simp only at c1 s1 l1 m1 hsn hpx
    have q0 := (r0.mono l1).1
    have q0' := (r0.mono l1).2
    have q1 := s1.1
    have q1' := s1.2
    have hax := bAnd_fn g1 rr r1 (by omega) c1.pos (by omega) (by omega)
    have ga := and_ok c1 (r0.mono l1) s1 (by omega)
    generalize andG g1 rr r1 = a at hsn hax ga
    obtain ⟨g2, r2⟩ := a
    simp only at hsn hax ga
    have q2 := ga.ref.1
    rw [← hso] at hpx
    simp only [bO] at hpx hax
    (refine zq ?_; refine zs ?_; refine zd ?_; refine zo ?_; refine zc ?_; refine AW.skip ?_; refine thenD_n ?_; refine zo ?_; refine AW.block ?_; refine zq ?_; refine nz ?_; (focus ((with_reducible apply AOps.index_map); (iterate 7 exact rfl); rotate_left; omega)); refine zr ?_; refine za ?_; refine zd ?_; refine zq ?_; refine nz ?_; refine zL ?_; refine nz ?_; refine zL ?_; refine nz ?_; (iterate 2 refine zm ?_); refine zP (hl1) ?_; refine za ?_; refine zd ?_; refine zq ?_; refine nz ?_; refine zm ?_; (with_reducible apply AOps.calloD (hcl)); exact lits_map (fun _ => ⟨_, rfl⟩) _; (repeat (first | exact .nil | (refine .cons rfl ?_ ?_; (first | exact .pv _ | exact .own _ _ _ _ rfl | exact .nil _ | exact .any _ | exact .rptr _ | (refine .aggL ?_; repeat (first | exact .nil | (refine .cons ?_ ?_; (first | exact .pv _ | exact .own _ _ _ _ rfl | exact .nil _)))))))); exact rfl; refine nz ?_; refine AOps.assign_own rfl rfl rfl ?_; refine zd ?_; refine zq ?_; refine nz ?_; refine AOps.move_own rfl rfl rfl ?_; (try refine nz ?_); refine AOps.rowC (sort_rowC) [37, 18, 36] rfl ⟨rfl, rfl, rfl, trivial⟩ rfl rfl rfl ?_; (conv => rhs; simp only [Nf.rwR, Nf.all, Nat.reduceBEq, reduceAdd, reduceSub]); refine zd ?_; refine zq ?_; refine AOps.move_ptr rfl rfl rfl ?_; refine zm ?_; refine AOps.move_clo rfl rfl rfl ?_; refine zm ?_; refine AOps.move_own rfl rfl rfl ?_; refine AOps.frzC rfl rfl ?_; refine nz ?_; refine zX (hpx) ?_; refine nx ?_; refine nz ?_; refine zX (hax) ?_; refine nx ?_; refine nz ?_; refine za ?_; refine zd ?_; refine zq ?_; refine nz ?_; refine zm ?_; refine zs ?_; refine zm ?_; (iterate 2 refine AOps.guardTn rfl rfl rfl rfl rfl rfl (by first | omega | decide) ?_); refine zF ?_; refine zd ?_; refine AW.cond_lf rfl rfl ?_; refine AW.skip ?_; refine inBlockD_n ?_; refine thenD_n ?_; refine AW.region ?_; refine nz ?_; refine zj ?_; refine zm ?_; refine zd ?_)
    exact ⟨k + 1, by omega, by omega, weak rfl (by (refine ⟨.intE (by first | with_reducible rfl | (first | rfl | (rw [hsn]))), ?_⟩; refine ⟨.intE (by first | with_reducible rfl | (first | rfl | (rw [hsn]))), ?_⟩; refine ⟨.intE (by first | with_reducible rfl | (first | rfl | (rw [hsn]))), ?_⟩; refine ⟨.pvE (by first | with_reducible rfl | (first | rfl | (rw [hsn]))), ?_⟩; (iterate 2 refine ⟨.eq rfl rfl, ?_⟩); refine ⟨.intE (by first | with_reducible rfl | (first | rfl | (rw [hsn]))), ?_⟩; (iterate 3 refine ⟨.eq rfl rfl, ?_⟩); refine ⟨.pvE (by first | with_reducible rfl | (first | rfl | (rw [hsn]))), ?_⟩; exact trivial)) (by (refine ⟨.box _ rfl ?_, ?_⟩; refine ⟨.pvE (by first | with_reducible rfl | (first | rfl | (rw [hsn]))), ?_⟩; exact trivial; refine ⟨.box _ rfl ?_, ?_⟩; refine ⟨.eq rfl rfl, ?_⟩; exact trivial; refine ⟨.box _ rfl ?_, ?_⟩; refine ⟨.pvE (by first | with_reducible rfl | (first | rfl | (rw [hsn]))), ?_⟩; refine ⟨.intE (by first | with_reducible rfl | (first | rfl | (rw [hsn]))), ?_⟩; exact trivial; refine ⟨.box _ rfl ?_, ?_⟩; refine ⟨.pvE (by first | with_reducible rfl | (first | rfl | (rw [hsn]))), ?_⟩; refine ⟨.pvE (by first | with_reducible rfl | (first | rfl | (rw [hsn]))), ?_⟩; (iterate 2 refine ⟨.eq rfl rfl, ?_⟩); (iterate 2 exact trivial))) rfl⟩
  · obtain rfl : k = ps.length := by omega
    rw [← hll, List.take_length]
    (refine zq ?_; refine zs ?_; refine zd ?_; refine zo ?_; refine zk ?_; refine AW.exit ?_; (iterate 2 refine thenD_exit ?_); refine inBlockD_exit ?_; refine thenD_n ?_; refine zq ?_; refine nz ?_; refine AOps.move_ptr rfl rfl rfl ?_; refine AOps.nilCheck_ptr rfl rfl rfl ?_; refine AOps.fieldAddrN 79 0 0 rfl rfl rfl rfl ?_; refine zL ?_; refine nz ?_; refine zm ?_; refine zB ?_; refine nz ?_; refine za ?_; refine zd ?_; refine AW.ret ?_)
    (apply ends_ret; (exact Res.two (.cell rfl rfl rfl rfl) (.tmp rfl rfl)); (refine Le.tupL ?_; refine LeL.cons ?_ ?_; refine Le.aggL ?_; refine LeL.cons ?_ ?_; (with_reducible exact Le.pv _); exact LeL.nil; refine LeL.cons ?_ ?_; refine Le.litI ?_; (rfl); exact LeL.nil))
end Go.Ab
/- Chapter 24: chapter 11's reference: equality, composition, inverse, sorts of atoms. -/
namespace Go.Ab
open Go Go.Proofs
open Nat (reduceAdd reduceSub)
set_option maxRecDepth 20000
set_option maxHeartbeats 4000000
theorem take_eq {a b : List Int} {k : Nat} (h1 : k < a.length) (h2 : k < b.length) (h : a.take k = b.take k) (he : a[k] = b[k]) : a.take (k + 1) = b.take (k + 1) := by
  rw [take_succ_get h1, take_succ_get h2, h, he]
attribute [local irreducible] AW AOps thenD inBlockD AR iterEnds roundEndsN inlEnds noGotoD
theorem same11_fn (a b : List Int) (ha : a.length ≤ 1000000) : Fn Try.prog 26 [.pv (ints a), .pv (ints b)] (litB (decide (a = b))) := by
  refine Fn.enter (n := 26) Try.func26 rfl rfl rfl rfl rfl (by decide) fun g hro_ hwt_ => ?_; (try refine nz ?_)
  by_cases hab : a.length = b.length
  · (refine zq ?_; refine za ?_; refine zd ?_; refine zo ?_; refine zq ?_; refine nz ?_; refine zm ?_; refine zn ?_; refine zm ?_; refine zn ?_; refine AOps.neq rfl rfl rfl rfl rfl ?_; refine zd ?_; refine zk ?_; refine AW.skip ?_; refine thenD_n ?_; refine zo ?_; refine zq ?_; refine nz ?_; refine za ?_; refine zd ?_; refine AW.block ?_)
    (refine nz ?_; apply AW.loopR [0, 1] [] (fun k : Nat => ([(5, litI k)] : List (Nat × AV))) (fun k : Nat => ([] : List (Nat × Option Ob))) (fun k : Nat => k ≤ a.length ∧ a.take k = b.take k) (fun k : Nat => a.length - k) (0); (conv => lhs; simp only [Nf.lpR, Nf.all, Nat.reduceBEq, reduceAdd, reduceSub]); (all_goals skip))
    · exact ⟨Nat.zero_le _, rfl⟩
    · exact weak rfl (by (refine ⟨.eq rfl rfl, ?_⟩; (iterate 2 refine ⟨.eq rfl rfl, ?_⟩); exact trivial)) (by (exact trivial)) rfl
    rintro k ⟨hk, hno⟩
    by_cases hlt : k < a.length
    · have hlt2 : k < b.length := by omega
      by_cases he : a[k] = b[k]
      · have hs := take_eq hlt hlt2 hno he
        (refine zo ?_; refine zq ?_; (iterate 2 refine zm ?_); refine zn ?_; refine zs ?_; refine zd ?_; refine zc ?_; refine AW.skip ?_; refine thenD_n ?_; refine zo ?_; refine AW.block ?_; refine zo ?_; (with_reducible apply AW.regionQ); exact rfl; exact rfl; kernel_rfl; (with_reducible assumption); (iterate 2 refine zm ?_); (focus ((with_reducible apply AOps.index_map); (iterate 7 exact rfl); rotate_left; omega)); refine zr ?_; (iterate 2 refine zm ?_); (focus ((with_reducible apply AOps.index_map); (iterate 7 exact rfl); rotate_left; omega)); refine zr ?_; refine AOps.neq rfl rfl rfl rfl rfl ?_; refine zd ?_; refine zk ?_; refine AW.skip ?_; refine inBlockD_n ?_; refine thenD_n ?_; refine AW.region ?_; refine nz ?_; refine zm ?_; refine zj ?_; refine za ?_; refine zd ?_)
        exact ⟨k + 1, ⟨by omega, hs⟩, by omega, weak rfl (by (refine ⟨.eq rfl rfl, ?_⟩; (iterate 2 refine ⟨.eq rfl rfl, ?_⟩); exact trivial)) (by (exact trivial)) rfl⟩
      · have hne : ¬ a = b := by rintro rfl; exact he rfl
        rw [decide_eq_false hne]
        (refine zo ?_; refine zq ?_; (iterate 2 refine zm ?_); refine zn ?_; refine zs ?_; refine zd ?_; refine zc ?_; refine AW.skip ?_; refine thenD_n ?_; refine zo ?_; refine AW.block ?_; refine zo ?_; (with_reducible apply AW.regionQ); exact rfl; exact rfl; kernel_rfl; (with_reducible assumption); (iterate 2 refine zm ?_); (focus ((with_reducible apply AOps.index_map); (iterate 7 exact rfl); rotate_left; omega)); refine zr ?_; (iterate 2 refine zm ?_); (focus ((with_reducible apply AOps.index_map); (iterate 7 exact rfl); rotate_left; omega)); refine zr ?_; refine AOps.neq rfl rfl rfl rfl rfl ?_; refine zd ?_; refine zc ?_; refine zq ?_; refine nz ?_; refine za ?_; refine zd ?_; refine AW.ret ?_; refine inBlockD_ret ?_; (iterate 2 refine thenD_ret ?_); refine inBlockD_ret ?_; refine thenD_ret ?_)
        (apply ends_ret; (exact Res.one (.tmp rfl rfl)); (refine Le.litB ?_; (rfl)))
    · have he : a = b := by
        have h1 : a.take k = a := List.take_of_length_le (by omega)
        have h2 : b.take k = b := List.take_of_length_le (by omega)
        rw [h1, h2] at hno; exact hno
      rw [decide_eq_true he]
      (refine zo ?_; refine zq ?_; (iterate 2 refine zm ?_); refine zn ?_; refine zs ?_; refine zd ?_; refine zk ?_; refine AW.exit ?_; (iterate 2 refine thenD_exit ?_); refine inBlockD_exit ?_; refine thenD_n ?_; refine zq ?_; refine nz ?_; refine za ?_; refine zd ?_; refine AW.ret ?_)
      (apply ends_ret; (exact Res.one (.tmp rfl rfl)); (refine Le.litB ?_; (rfl)))
  · have hne : ¬ a = b := by rintro rfl; exact hab rfl
    rw [decide_eq_false hne]
    (refine zq ?_; refine za ?_; refine zd ?_; refine zo ?_; refine zq ?_; refine nz ?_; refine zm ?_; refine zn ?_; refine zm ?_; refine zn ?_; refine AOps.neq rfl rfl rfl rfl rfl ?_; refine zd ?_; refine zc ?_; refine zq ?_; refine nz ?_; refine za ?_; refine zd ?_; refine AW.ret ?_; refine thenD_ret ?_)
    (apply ends_ret; (exact Res.one (.tmp rfl rfl)); (refine Le.litB ?_; (rfl)))
theorem compA_snoc (p : List Int) {q : List Int} {k : Nat} (h : k < q.length) : compA p (q.take (k + 1)) = compA p (q.take k) ++ [p.getD q[k].toNat 0] := by
  rw [take_succ_get h]; unfold compA; rw [List.map_append]; rfl
attribute [local irreducible] compA
theorem compose_fn (p q : List Int) (hq : ∀ x ∈ q, 0 ≤ x ∧ x < (p.length : Int)) (hl : q.length ≤ 100000) : Fn Try.prog 22 [.pv (ints p), .pv (ints q)] (.pv (ints (compA p q))) := by
  have hcl := comp_len p
  refine Fn.enter (n := 25) Try.func22 rfl rfl rfl rfl rfl (by decide) fun g hro_ hwt_ => ?_; (try refine nz ?_)
  (refine zq ?_; refine za ?_; refine zd ?_; refine zq ?_; refine nz ?_; refine AOps.bs0 rfl rfl rfl rfl rfl ?_; refine nz ?_; refine AOps.assign_own rfl rfl rfl ?_; refine zd ?_; refine zo ?_; refine zq ?_; refine nz ?_; refine za ?_; refine zd ?_; refine AW.block ?_)
  (refine nz ?_; apply AW.loopR [4, 0, 1] [] (fun k : Nat => ([(6, litI k), (5, .own 0 3 1 ((compA p (q.take k)).map encI))] : List (Nat × AV))) (fun k : Nat => ([(0, some .row)] : List (Nat × Option Ob))) (fun k : Nat => k ≤ q.length) (fun k : Nat => q.length - k) (0); (conv => lhs; simp only [Nf.lpR, Nf.all, Nat.reduceBEq, reduceAdd, reduceSub]); (all_goals skip))
  · exact Nat.zero_le _
  · exact weak rfl (by (refine ⟨.intE (by first | with_reducible rfl | (first | rfl | (unfold compA; rfl))), ?_⟩; refine ⟨.ownE (by first | with_reducible rfl | (first | rfl | (unfold compA; rfl))) rfl, ?_⟩; refine ⟨.eq rfl rfl, ?_⟩; refine ⟨.pvE (by first | with_reducible rfl | (first | rfl | (unfold compA; rfl))), ?_⟩; refine ⟨.pvE (by first | with_reducible rfl | (first | rfl | (unfold compA; rfl))), ?_⟩; exact trivial)) (by (refine ⟨.row rfl, ?_⟩; exact trivial)) rfl
  rintro k hk
  have hc := hcl (q.take k)
  have htl := List.length_take_le k q
  by_cases hlt : k < q.length
  · have hx := hq _ (List.getElem_mem hlt)
    have hs := compA_snoc p hlt
    rw [getD_of (show q[k].toNat < p.length by omega)] at hs
    (refine zo ?_; refine zq ?_; (iterate 2 refine zm ?_); refine zn ?_; refine zs ?_; refine zd ?_; refine zc ?_; refine AW.skip ?_; refine thenD_n ?_; refine zo ?_; refine AW.block ?_; refine AW.region ?_; refine nz ?_; refine AOps.move_own rfl rfl rfl ?_; (iterate 3 refine zm ?_); (focus ((with_reducible apply AOps.index_map); (iterate 7 exact rfl); rotate_left; omega)); refine zr ?_; (focus ((with_reducible apply AOps.index_mapI); (iterate 7 exact rfl); omega; rotate_left; (first | omega | exact Nat.zero_lt_one | exact (by simp)))); refine zr ?_; refine AOps.bs1 rfl rfl rfl rfl rfl rfl rfl rfl ?_; refine nz ?_; (with_reducible apply AOps.appendS); exact rfl; (first | exact .pv rfl | exact .own rfl | exact .nil rfl); (iterate 9 exact rfl); (first | omega | (simp only [List.length_map, List.length_append, List.length_cons, List.length_nil, List.length_drop, List.length_take, List.length_set, chunk_len]; omega)); refine nz ?_; refine AOps.assign_own rfl rfl rfl ?_; refine AOps.nil ?_; refine inBlockD_n ?_; refine thenD_n ?_; refine AW.region ?_; refine nz ?_; refine zm ?_; refine zj ?_; refine za ?_; refine zd ?_)
    exact ⟨k + 1, by omega, by omega, weak rfl (by (refine ⟨.intE (by first | with_reducible rfl | (first | rfl | (rw [hs, List.map_append]; rfl))), ?_⟩; refine ⟨.ownE (by first | with_reducible rfl | (first | rfl | (rw [hs, List.map_append]; rfl))) rfl, ?_⟩; refine ⟨.eq rfl rfl, ?_⟩; refine ⟨.pvE (by first | with_reducible rfl | (first | rfl | (rw [hs, List.map_append]; rfl))), ?_⟩; refine ⟨.pvE (by first | with_reducible rfl | (first | rfl | (rw [hs, List.map_append]; rfl))), ?_⟩; exact trivial)) (by (refine ⟨.row rfl, ?_⟩; exact trivial)) rfl⟩
  · rw [take_all (l := q) (by omega)]
    (refine zo ?_; refine zq ?_; (iterate 2 refine zm ?_); refine zn ?_; refine zs ?_; refine zd ?_; refine zk ?_; refine AW.exit ?_; (iterate 2 refine thenD_exit ?_); refine inBlockD_exit ?_; refine thenD_n ?_; refine zq ?_; refine nz ?_; refine AOps.move_own rfl rfl rfl ?_; refine AOps.assign_own rfl rfl rfl ?_; refine zd ?_; refine AW.ret ?_)
    (apply ends_ret; (exact Res.one (.tmp rfl rfl)); (exact Le.own _ _ _ _ rfl))
def invU (p : List Int) (k : Nat) : List Int := (List.range p.length).map fun j : Nat => if p.findIdx (fun x => decide (x = (j : Int))) < k then ((p.findIdx fun x => decide (x = (j : Int)) : Nat) : Int) else p.getD j 0
theorem invU_len (p : List Int) (k : Nat) : (invU p k).length = p.length := by simp [invU]
theorem invU_zero (p : List Int) : invU p 0 = p := by
  refine List.ext_getElem (invU_len p 0) fun i h1 h2 => ?_
  simp only [invU, List.getElem_map, List.getElem_range]
  rw [if_neg (by omega), getD_of h2]
theorem invU_all {srt : Int → Int} {p : List Int} (h : PermA p.length srt p) : invU p p.length = invA p := by
  unfold invU invA
  refine List.map_congr_left fun j hj => ?_
  obtain ⟨i, hi, h1, _⟩ := h.find (j := j) (List.mem_range.1 hj)
  rw [if_pos (by omega)]
theorem invU_set {srt : Int → Int} {p : List Int} (h : PermA p.length srt p) {k : Nat} (hk : k < p.length) : (invU p k).set p[k].toNat (k : Int) = invU p (k + 1) := by
  have hr := h.rng _ (List.getElem_mem hk)
  refine List.ext_getElem (by simp [invU]) fun j h1 h2 => ?_
  have hj : j < p.length := by simpa [invU] using h2
  obtain ⟨i, hi, i1, i2⟩ := h.find (j := j) hj
  rw [List.getElem_set]
  simp only [invU, List.getElem_map, List.getElem_range, i1]
  by_cases e : p[k].toNat = j
  · rw [if_pos e]
    have e2 : p[i] = p[k] := by rw [i2]; omega
    have := (List.getElem_inj h.nodup).1 e2
    subst this
    rw [if_pos (by omega)]
  · rw [if_neg e]
    have : i ≠ k := by rintro rfl; omega
    by_cases hik : i < k
    · rw [if_pos hik, if_pos (by omega)]
    · rw [if_neg hik, if_neg (by omega)]
theorem setI2 (l : List Int) (i : Nat) (x : Int) : (l.map encI).set i [PV.lit (.int .i64 x)] = (l.set i x).map encI := by
  rw [List.map_set]; rfl
attribute [local irreducible] invU invA
theorem inverse11_fn {srt : Int → Int} (p : List Int) (h : PermA p.length srt p) (hl : p.length ≤ 100000) : Fn Try.prog 23 [.pv (ints p)] (.pv (ints (invA p))) := by
  refine Fn.enter (n := 22) Try.func23 rfl rfl rfl rfl rfl (by decide) fun g hro_ hwt_ => ?_; (try refine nz ?_)
  (refine zq ?_; refine za ?_; refine zd ?_; refine zq ?_; refine nz ?_; refine AOps.bs0 rfl rfl rfl rfl rfl ?_; refine nz ?_; refine zm ?_; (with_reducible apply AOps.appendS); exact rfl; (first | exact .pv rfl | exact .own rfl | exact .nil rfl); (iterate 9 exact rfl); (first | omega | (simp only [List.length_map, List.length_append, List.length_cons, List.length_nil, List.length_drop, List.length_take, List.length_set, chunk_len]; omega)); refine nz ?_; refine AOps.assign_own rfl rfl rfl ?_; refine zd ?_; refine zo ?_; refine zq ?_; refine nz ?_; refine za ?_; refine zd ?_; refine AW.block ?_)
  (refine nz ?_; apply AW.loopR [2, 0] [] (fun k : Nat => ([(4, litI k), (3, .own 0 3 1 ((invU p k).map encI))] : List (Nat × AV))) (fun k : Nat => ([(0, some .row)] : List (Nat × Option Ob))) (fun k : Nat => k ≤ p.length) (fun k : Nat => p.length - k) (0); (conv => lhs; simp only [Nf.lpR, Nf.all, Nat.reduceBEq, reduceAdd, reduceSub]); (all_goals skip))
  · exact Nat.zero_le _
  · exact weak rfl (by (refine ⟨.intE (by first | with_reducible rfl | (first | rfl | (rw [invU_zero]; rfl) | (rw [invU_zero]))), ?_⟩; refine ⟨.ownE (by first | with_reducible rfl | (first | rfl | (rw [invU_zero]; rfl) | (rw [invU_zero]))) rfl, ?_⟩; refine ⟨.eq rfl rfl, ?_⟩; refine ⟨.pvE (by first | with_reducible rfl | (first | rfl | (rw [invU_zero]; rfl) | (rw [invU_zero]))), ?_⟩; exact trivial)) (by (refine ⟨.row rfl, ?_⟩; exact trivial)) rfl
  rintro k hk
  have hil := invU_len p k
  by_cases hlt : k < p.length
  · have hst := invU_set h hlt
    have hr := h.rng _ (List.getElem_mem hlt)
    (refine zo ?_; refine zq ?_; (iterate 2 refine zm ?_); refine zn ?_; refine zs ?_; refine zd ?_; refine zc ?_; refine AW.skip ?_; refine thenD_n ?_; refine zo ?_; refine AW.block ?_; refine AW.region ?_; refine nz ?_; refine AOps.move_own rfl rfl rfl ?_; (iterate 2 refine zm ?_); (focus ((with_reducible apply AOps.index_map); (iterate 7 exact rfl); rotate_left; omega)); refine zr ?_; refine zm ?_; refine AOps.index_own_mapI rfl rfl rfl rfl rfl rfl rfl (by omega) (by omega) ?_; refine AOps.store_o1 rfl rfl rfl rfl rfl rfl rfl rfl ?_; refine AOps.nil ?_; refine inBlockD_n ?_; refine thenD_n ?_; refine AW.region ?_; refine nz ?_; refine zm ?_; refine zj ?_; refine za ?_; refine zd ?_)
    exact ⟨k + 1, by omega, by omega, weak rfl (by (refine ⟨.intE (by first | with_reducible rfl | (first | rfl | (rw [setI2, hst]))), ?_⟩; refine ⟨.ownE (by first | with_reducible rfl | (first | rfl | (rw [setI2, hst]))) rfl, ?_⟩; refine ⟨.eq rfl rfl, ?_⟩; refine ⟨.pvE (by first | with_reducible rfl | (first | rfl | (rw [setI2, hst]))), ?_⟩; exact trivial)) (by (refine ⟨.row rfl, ?_⟩; exact trivial)) rfl⟩
  · obtain rfl : k = p.length := by omega
    rw [invU_all h]
    (refine zo ?_; refine zq ?_; (iterate 2 refine zm ?_); refine zn ?_; refine zs ?_; refine zd ?_; refine zk ?_; refine AW.exit ?_; (iterate 2 refine thenD_exit ?_); refine inBlockD_exit ?_; refine thenD_n ?_; refine zq ?_; refine nz ?_; refine AOps.move_own rfl rfl rfl ?_; refine AOps.assign_own rfl rfl rfl ?_; refine zd ?_; refine AW.ret ?_)
    (apply ends_ret; (exact Res.one (.tmp rfl rfl)); (exact Le.own _ _ _ _ rfl))
theorem atoms11_fn (at' : List Int) (st : Int) (h : SmA at') : Fn Try.prog 82 [scp at' st] (litI at'.sum) := by
  have hb := h.take
  have hle := h.1
  refine Fn.enter (n := 20) Try.func82 rfl rfl rfl rfl rfl (by decide) fun g hro_ hwt_ => ?_; (try refine nz ?_)
  (refine zq ?_; refine AOps.box rfl rfl rfl rfl ?_; refine nz ?_; refine za ?_; refine zd ?_; refine zq ?_; refine nz ?_; refine za ?_; refine zd ?_; refine zo ?_; refine zq ?_; refine nz ?_; refine za ?_; refine zd ?_; refine AW.block ?_)
  (refine nz ?_; apply AW.loopR [2, 1] [0] (fun k : Nat => ([(3, litI (at'.take k).sum), (4, litI k)] : List (Nat × AV))) (fun k : Nat => ([] : List (Nat × Option Ob))) (fun k : Nat => k ≤ at'.length) (fun k : Nat => at'.length - k) (0); (conv => lhs; simp only [Nf.lpR, Nf.all, Nat.reduceBEq, reduceAdd, reduceSub]); (all_goals skip))
  · exact Nat.zero_le _
  · exact weak rfl (by (refine ⟨.eq rfl rfl, ?_⟩; (iterate 3 refine ⟨.eq rfl rfl, ?_⟩); exact trivial)) (by (refine ⟨.box _ rfl ?_, ?_⟩; (iterate 2 refine ⟨.eq rfl rfl, ?_⟩); (iterate 2 exact trivial))) rfl
  rintro k hk
  by_cases hlt : k < at'.length
  · have hs := sum_snoc at' hlt
    have h1 := hb k
    have h2 := hb (k + 1)
    (refine zo ?_; refine zq ?_; refine zm ?_; refine AOps.fieldAddrN 49 0 0 rfl rfl rfl rfl ?_; refine zb ?_; refine zn ?_; refine zs ?_; refine zd ?_; refine zc ?_; refine AW.skip ?_; refine thenD_n ?_; refine zo ?_; refine AW.block ?_; refine AW.region ?_; refine nz ?_; refine zm ?_; refine AOps.fieldAddrN 49 0 0 rfl rfl rfl rfl ?_; refine zb ?_; refine zm ?_; (focus ((with_reducible apply AOps.index_map); (iterate 7 exact rfl); rotate_left; omega)); refine zr ?_; refine zj ?_; refine za ?_; refine AOps.nil ?_; refine inBlockD_n ?_; refine thenD_n ?_; refine AW.region ?_; refine nz ?_; refine zm ?_; refine zj ?_; refine za ?_; refine zd ?_)
    exact ⟨k + 1, by omega, by omega, weak rfl (by (refine ⟨.intE (by first | with_reducible rfl | (first | rfl | (rw [hs]))), ?_⟩; refine ⟨.intE (by first | with_reducible rfl | (first | rfl | (rw [hs]))), ?_⟩; refine ⟨.intE (by first | with_reducible rfl | (first | rfl | (rw [hs]))), ?_⟩; refine ⟨.eq rfl rfl, ?_⟩; exact trivial)) (by (refine ⟨.box _ rfl ?_, ?_⟩; refine ⟨.pvE (by first | with_reducible rfl | (first | rfl | (rw [hs]))), ?_⟩; refine ⟨.intE (by first | with_reducible rfl | (first | rfl | (rw [hs]))), ?_⟩; (iterate 2 exact trivial))) rfl⟩
  · rw [take_all (l := at') (by omega)]
    (refine zo ?_; refine zq ?_; refine zm ?_; refine AOps.fieldAddrN 49 0 0 rfl rfl rfl rfl ?_; refine zb ?_; refine zn ?_; refine zs ?_; refine zd ?_; refine zk ?_; refine AW.exit ?_; (iterate 2 refine thenD_exit ?_); refine inBlockD_exit ?_; refine thenD_n ?_; refine zq ?_; refine nz ?_; refine zm ?_; refine za ?_; refine zd ?_; refine AW.ret ?_)
    (apply ends_ret; (exact Res.one (.tmp rfl rfl)); (refine Le.litI ?_; (rfl)))
theorem sort11_fn (at' : List Int) (st x : Int) (h : SmA at') (hx : -9223372036854775808 ≤ x ∧ x ≤ 9223372036854775807) : Fn Try.prog 83 [scp at' st, litI x] (litI (sortF at' x 0)) := by
  have hle := h.1
  refine Fn.enter (n := 28) Try.func83 rfl rfl rfl rfl rfl (by decide) fun g hro_ hwt_ => ?_; (try refine nz ?_)
  (refine zq ?_; refine AOps.box rfl rfl rfl rfl ?_; refine nz ?_; refine za ?_; refine zd ?_; refine zo ?_; refine zq ?_; refine nz ?_; refine za ?_; refine zd ?_; refine AW.block ?_)
  (refine nz ?_; apply AW.loopR [2] [0] (fun s : Nat × Int => ([(5, litI s.1), (1, litI s.2)] : List (Nat × AV))) (fun s : Nat × Int => ([] : List (Nat × Option Ob))) (fun s : Nat × Int => s.1 ≤ at'.length ∧ -9223372036854775808 ≤ s.2 ∧ s.2 ≤ 9223372036854775807 ∧ sortF at' x 0 = sortF (at'.drop s.1) s.2 s.1) (fun s : Nat × Int => at'.length - s.1) ((0, x)); (conv => lhs; simp only [Nf.lpR, Nf.all, Nat.reduceBEq, reduceAdd, reduceSub]); (all_goals skip))
  · exact ⟨Nat.zero_le _, hx.1, hx.2, rfl⟩
  · exact weak rfl (by (refine ⟨.eq rfl rfl, ?_⟩; (iterate 2 refine ⟨.eq rfl rfl, ?_⟩); exact trivial)) (by (refine ⟨.box _ rfl ?_, ?_⟩; (iterate 2 refine ⟨.eq rfl rfl, ?_⟩); (iterate 2 exact trivial))) rfl
  rintro ⟨j, y⟩ ⟨hj, h1, h2, he⟩
  simp only at hj h1 h2 he ⊢
  by_cases hlt : j < at'.length
  · have hz := h.2 _ (List.getElem_mem hlt)
    rw [sortF_drop hlt] at he
    by_cases hc : y < at'[j]
    · rw [if_pos hc] at he
      (refine zo ?_; refine zq ?_; refine zm ?_; refine AOps.fieldAddrN 49 0 0 rfl rfl rfl rfl ?_; refine zb ?_; refine zn ?_; refine zs ?_; refine zd ?_; refine zc ?_; refine AW.skip ?_; refine thenD_n ?_; refine zo ?_; refine AW.block ?_; refine zo ?_; refine zq ?_; refine nz ?_; refine zm ?_; refine AOps.fieldAddrN 49 0 0 rfl rfl rfl rfl ?_; refine zb ?_; refine zm ?_; (focus ((with_reducible apply AOps.index_map); (iterate 7 exact rfl); rotate_left; omega)); refine zr ?_; refine zs ?_; refine zd ?_; refine zc ?_; refine zq ?_; refine nz ?_; refine zm ?_; refine za ?_; refine zd ?_; refine AW.ret ?_; refine thenD_ret ?_; refine inBlockD_ret ?_; (iterate 2 refine thenD_ret ?_); refine inBlockD_ret ?_; refine thenD_ret ?_)
      (apply ends_ret; (exact Res.one (.tmp rfl rfl)); (refine Le.litI ?_; (exact he.symm)))
    · rw [if_neg hc] at he
      (refine zo ?_; refine zq ?_; refine zm ?_; refine AOps.fieldAddrN 49 0 0 rfl rfl rfl rfl ?_; refine zb ?_; refine zn ?_; refine zs ?_; refine zd ?_; refine zc ?_; refine AW.skip ?_; refine thenD_n ?_; refine zo ?_; refine AW.block ?_; refine zo ?_; refine zq ?_; refine nz ?_; refine zm ?_; refine AOps.fieldAddrN 49 0 0 rfl rfl rfl rfl ?_; refine zb ?_; refine zm ?_; (focus ((with_reducible apply AOps.index_map); (iterate 7 exact rfl); rotate_left; omega)); refine zr ?_; refine zs ?_; refine zd ?_; refine zk ?_; refine AW.skip ?_; refine thenD_n ?_; refine AW.region ?_; refine nz ?_; refine zm ?_; refine AOps.fieldAddrN 49 0 0 rfl rfl rfl rfl ?_; refine zb ?_; refine zm ?_; (focus ((with_reducible apply AOps.index_map); (iterate 7 exact rfl); rotate_left; omega)); refine zr ?_; refine AOps.sub rfl rfl rfl rfl rfl (by omega) ?_; refine za ?_; refine AOps.nil ?_; refine inBlockD_n ?_; refine thenD_n ?_; refine AW.region ?_; refine nz ?_; refine zm ?_; refine zj ?_; refine za ?_; refine zd ?_)
      exact ⟨(j + 1, y - at'[j]), ⟨by show j + 1 ≤ _; omega, by show _ ≤ y - _; omega, by show y - _ ≤ _; omega, he⟩, by show at'.length - (j + 1) < at'.length - j; omega, weak rfl (by (refine ⟨.eq rfl rfl, ?_⟩; (iterate 2 refine ⟨.eq rfl rfl, ?_⟩); exact trivial)) (by (refine ⟨.box _ rfl ?_, ?_⟩; (iterate 2 refine ⟨.eq rfl rfl, ?_⟩); (iterate 2 exact trivial))) rfl⟩
  · rw [List.drop_eq_nil_of_le (by omega)] at he
    (refine zo ?_; refine zq ?_; refine zm ?_; refine AOps.fieldAddrN 49 0 0 rfl rfl rfl rfl ?_; refine zb ?_; refine zn ?_; refine zs ?_; refine zd ?_; refine zk ?_; refine AW.exit ?_; (iterate 2 refine thenD_exit ?_); refine inBlockD_exit ?_; refine thenD_n ?_; refine zq ?_; refine nz ?_; refine za ?_; refine zd ?_; refine AW.ret ?_)
    (apply ends_ret; (exact Res.one (.tmp rfl rfl)); (refine Le.litI ?_; (exact he.symm)))
end Go.Ab
/- Chapter 24: the laws' head is true. -/
namespace Go.Ab
open Go Go.Proofs
open Nat (reduceAdd reduceSub)
set_option maxRecDepth 100000
set_option maxHeartbeats 64000000
def flN : List FieldM := [⟨⟨#[102]⟩, [0], false⟩, ⟨⟨#[103]⟩, [0], true⟩]
def spN : SpecM := ⟨[(⟨#[65]⟩, false)], flN, ⟨none, 0, 0⟩, ⟨none, 0, 0⟩⟩
def dN : List BndM := [((1, []), (1, [0, 1])), ((1, []), (1, [0, 1]))]
def c0N : List GateM := [⟨0, 0, 0⟩]
theorem smN : SmA [2] := ⟨by decide, by decide⟩
theorem hDN : defM [2] spN.fields = dN := by decide +kernel
theorem frN : freeL 0 dN = [(0, 0), (0, 1), (1, 0), (1, 1)] := by decide +kernel
theorem c0N_ok : CirOk c0N := ⟨rfl, fun i h h0 => by simp [c0N] at h; omega⟩
theorem pmN : PermA ([1, 0] : List Int).length (fun _ => 0) [1, 0] := ⟨rfl, by decide, by decide, fun i h => rfl⟩
theorem litokN : LitOk spN 2 dN [1, 0] where
  stb := by decide
  nb := by decide
  sm := by decide
  hi := by decide
  rk := by rw [frN]; decide
  ar := by decide
  pl := by decide
  pa := ⟨_, pmN⟩
  mem := by rw [frN]; decide +kernel
theorem litN : litV 0 ([1, 0] : List Int).length (arF spN.fields) 2 (vrF spN.fields) dN [1, 0] = [1, 2, 4, 3, 6, 5, 8, 7] := by
  unfold litV
  rw [frN]
  decide +kernel
theorem p21 : PermOk [2, 1] := ⟨by decide, by decide⟩
theorem p123 : PermOk [1, 2, 3] := ⟨by decide, by decide⟩
theorem pdN : predM c0N [1, 2, 3] [3, 1] = (c0N, 0) := pred_id _ (by decide +kernel)
theorem bkN : brkM c0N [] = (c0N, 0) := rfl
attribute [local irreducible] AW AOps thenD inBlockD AR iterEnds roundEndsN inlEnds noGotoD predM andG brkM litV defM
theorem head24_fn : Fn Try.prog 7 [] (litB true) := by
  have fD := r9default_fn spN [2] 2 (by decide) (by decide) smN (by decide) (by decide)
  rw [hDN] at fD
  have fL := literals_fn spN [2] 2 dN [1, 0] litokN
  rw [litN] at fL
  have fN := c13New_fn
  have fP := pPredicate_fn c0N [2, 1] [1, 2] c0N_ok p21 (by decide) (by decide) (by decide) (by decide)
  have gP := pred_ok c0N_ok p21 (by decide) [1, 2] (by decide) (by decide)
  have fQ := pPredicate_fn c0N [1, 2, 3] [3, 1] c0N_ok p123 (by decide) (by decide) (by decide) (by decide)
  rw [pdN] at fQ
  have fB := breaking_fn spN [2] 2 dN [] c0N 0 c0N_ok (by simp) (by simp) (by decide) (by decide)
  rw [List.map_nil, bkN] at fB
  have fS := same11_fn [1, 2, 4, 3, 6, 5, 8, 7] [1, 2, 4, 3, 6, 5, 8, 7] (by decide)
  rw [decide_eq_true rfl] at fS
  generalize predM c0N [2, 1] [1, 2] = p at fP gP
  obtain ⟨g1, r1⟩ := p
  have hlen := gP.len
  simp only at fP hlen
  have hl1 : g1.length ≤ 100000 := by
    have : c0N.length = 1 := rfl
    simp only [List.length_cons, List.length_nil] at hlen
    omega
  have e1 := eval_fn g1 [false, false] r1 gP.cir gP.ref hl1 (by decide)
  have e2 := eval_fn g1 [false, true] r1 gP.cir gP.ref hl1 (by decide)
  have e3 := eval_fn g1 [true, false] r1 gP.cir gP.ref hl1 (by decide)
  have e4 := eval_fn g1 [true, true] r1 gP.cir gP.ref hl1 (by decide)
  have v1 := gP.val [false, false]
  have v2 := gP.val [false, true]
  have v3 := gP.val [true, false]
  have v4 := gP.val [true, true]
  simp only at v1 v2 v3 v4
  rw [v1, show ngF (inV [false, false]) (fun w => inV [false, false] (backM [2, 1] w)) [1, 2] = true by decide +kernel] at e1
  rw [v2, show ngF (inV [false, true]) (fun w => inV [false, true] (backM [2, 1] w)) [1, 2] = true by decide +kernel] at e2
  rw [v3, show ngF (inV [true, false]) (fun w => inV [true, false] (backM [2, 1] w)) [1, 2] = false by decide +kernel] at e3
  rw [v4, show ngF (inV [true, true]) (fun w => inV [true, true] (backM [2, 1] w)) [1, 2] = true by decide +kernel] at e4
  clear gP v1 v2 v3 v4
  have l1 := leader_fn [false, true] [[2, 1]] (fun p hp => by rw [List.mem_singleton] at hp; subst hp; exact ⟨p21, by decide⟩) (by decide)
  rw [show leadM [false, true] [[2, 1]] = true by decide +kernel] at l1
  have l2 := leader_fn [true] [[2, 1]] (fun p hp => by rw [List.mem_singleton] at hp; subst hp; exact ⟨p21, by decide⟩) (by decide)
  rw [show leadM [true] [[2, 1]] = false by decide +kernel] at l2
  have l3 := leader_fn [] [] (by simp) (by decide)
  rw [show leadM [] [] = true by decide +kernel] at l3
  refine Fn.enter (n := 109) Try.func7 rfl rfl rfl rfl rfl (by decide) fun g hro_ hwt_ => ?_; (try refine nz ?_)
  (refine zq ?_; refine za ?_; refine zd ?_; refine zq ?_; refine nz ?_; refine AOps.buildN 69 [0] rfl rfl rfl rfl rfl rfl rfl rfl rfl ?_; refine nz ?_; refine AOps.bs1a2 rfl rfl rfl rfl rfl rfl rfl rfl rfl ?_; refine nz ?_; refine AOps.bs1 rfl rfl rfl rfl rfl rfl rfl rfl ?_; refine nz ?_; refine AOps.buildN 71 [0, 1] rfl rfl rfl rfl rfl rfl rfl rfl rfl ?_; refine nz ?_; refine AOps.bs1 rfl rfl rfl rfl rfl rfl rfl rfl ?_; refine nz ?_; refine AOps.buildN 71 [0, 1, 2] rfl rfl rfl rfl rfl rfl rfl rfl rfl ?_; refine nz ?_; refine AOps.frzB rfl rfl ?_; refine nz ?_; refine AOps.frzB rfl rfl ?_; refine nz ?_; (focus ((with_reducible apply AOps.bsA (k := 3)); (iterate 6 exact rfl); (focus ((repeat ((any_goals (apply PvR.cons)); (all_goals (try exact rfl)); (all_goals (try (repeat (first | exact PvL.nil | apply PvL.cons)))))); (any_goals (exact PvR.nil)); done)); exact rfl; exact rfl; (try refine nz ?_))); refine AOps.buildN 47 [0, 1] rfl rfl rfl rfl rfl rfl rfl rfl rfl ?_; refine nz ?_; refine AOps.allocN' rfl rfl rfl rfl ?_; refine nz ?_; refine zB ?_; refine nz ?_; refine zd ?_; refine zq ?_; refine AOps.bs1 rfl rfl rfl rfl rfl rfl rfl rfl ?_; refine nz ?_; refine AOps.buildN 49 [0, 1] rfl rfl rfl rfl rfl rfl rfl rfl rfl ?_; refine nz ?_; refine AOps.allocN' rfl rfl rfl rfl ?_; refine nz ?_; refine zB ?_; refine nz ?_; refine zd ?_; refine zq ?_; refine zL ?_; refine nz ?_; refine zL ?_; refine nz ?_; refine AOps.frzC rfl rfl ?_; refine nz ?_; refine AOps.frzC rfl rfl ?_; refine nz ?_; refine AOps.frzC rfl rfl ?_; refine nz ?_; (with_reducible apply AOps.callo (fD)); (repeat (first | exact .nil | (refine .cons rfl ?_ ?_; (first | exact .pv _ | exact .own _ _ _ _ rfl | exact .nil _ | exact .any _ | exact .rptr _ | (refine .aggL ?_; repeat (first | exact .nil | (refine .cons ?_ ?_; (first | exact .pv _ | exact .own _ _ _ _ rfl | exact .nil _)))))))); exact rfl; refine nz ?_; refine AOps.assign_own rfl rfl rfl ?_; refine zd ?_; refine zq ?_; refine nz ?_; refine zL ?_; refine nz ?_; refine zL ?_; refine nz ?_; refine AOps.move_own rfl rfl rfl ?_; refine AOps.bs2 rfl rfl rfl rfl rfl rfl rfl rfl rfl rfl rfl ?_; refine nz ?_; refine AOps.frzC rfl rfl ?_; refine nz ?_; refine AOps.frzC rfl rfl ?_; refine nz ?_; refine zP (fL) ?_; refine za ?_; refine zd ?_; refine zq ?_; refine nz ?_; refine zP (fN) ?_; refine AOps.bs2 rfl rfl rfl rfl rfl rfl rfl rfl rfl rfl rfl ?_; refine nz ?_; refine AOps.bs2 rfl rfl rfl rfl rfl rfl rfl rfl rfl rfl rfl ?_; refine nz ?_; refine AOps.frzC rfl rfl ?_; refine nz ?_; refine AOps.frzC rfl rfl ?_; refine nz ?_; refine zP (fP) ?_; refine AOps.move_tup rfl rfl rfl ?_; (iterate 2 refine AOps.extract rfl rfl rfl rfl ?_); refine AOps.allocN' rfl rfl rfl rfl ?_; refine nz ?_; refine zB ?_; refine nz ?_; refine za ?_; refine zd ?_; refine zq ?_; refine nz ?_; refine zP (fN) ?_; refine AOps.bs3 rfl rfl rfl rfl rfl rfl rfl rfl rfl rfl rfl rfl rfl rfl ?_; refine nz ?_; refine AOps.bs2 rfl rfl rfl rfl rfl rfl rfl rfl rfl rfl rfl ?_; refine nz ?_; refine AOps.frzC rfl rfl ?_; refine nz ?_; refine AOps.frzC rfl rfl ?_; refine nz ?_; refine zP (fQ) ?_; refine AOps.move_tup rfl rfl rfl ?_; (iterate 2 refine AOps.extract rfl rfl rfl rfl ?_); refine AOps.allocN' rfl rfl rfl rfl ?_; refine nz ?_; refine zB ?_; refine nz ?_; refine za ?_; refine zd ?_; refine zo ?_; refine AW.regionM [0, 1, 2] [9] rfl (by assumption) (by kernel_rfl) (by kernel_rfl) rfl ?_; show AOps .held _ _ _ [_, _, _] _ _; refine zL ?_; refine nz ?_; refine zL ?_; refine nz ?_; refine zm ?_; refine AOps.nil ?_; refine onlyN_n ?_; intro k_ hk_; refine nz ?_; apply AR.cut [2, 1, 0, 3, 4, 5, 6, 7, 8, 9]; intro hJ_0; apply AR.cut [2, 1, 0, 3, 4, 5, 6, 7, 8]; intro hJ_1; apply AR.cut [2, 1, 0, 3, 4, 5, 6, 7]; intro hJ_2; apply AR.cut [2, 1, 0, 3, 4, 5, 7, 8]; intro hJ_3; apply AR.cut [2, 1, 0, 3, 4, 5, 6, 8]; intro hJ_4; apply AR.cut [2, 1, 0, 3, 4, 5, 8]; intro hJ_5; apply AR.cut [2, 1, 0, 3, 8]; intro hJ_6; (refine AR.step2M (i := 3) (j := 8) rfl (by kernel_rfl) rfl rfl ?_ ?_ <;> intro g_ hgro_ hw_); refine zP (fN) ?_; refine AOps.nil ?_; refine onlyN_n ?_; (refine AR.step2M (i := 4) (j := 8) rfl (by kernel_rfl) rfl rfl ?_ ?_ <;> intro g_ hgro_ hw_); refine zP (fB) ?_; refine AOps.nil ?_; refine onlyN_n ?_; (refine AR.step2M (i := 5) (j := 8) rfl (by kernel_rfl) rfl rfl ?_ ?_ <;> intro g_ hgro_ hw_); refine AOps.move_tup rfl rfl rfl ?_; refine AOps.nil ?_; refine onlyN_n ?_; (refine AR.step3M (i := 6) (j := 7) (m := 8) rfl (by kernel_rfl) rfl rfl rfl ?_ ?_ ?_ <;> intro g_ hgro_ hw_); refine AOps.extract rfl rfl rfl rfl ?_; refine AOps.nil ?_; refine onlyN_n ?_; (refine AR.step2M (i := 7) (j := 8) rfl (by kernel_rfl) rfl rfl ?_ ?_ <;> intro g_ hgro_ hw_); refine AOps.extract rfl rfl rfl rfl ?_; refine AOps.nil ?_; refine onlyN_n ?_; (try refine nz ?_); refine AR.dd ?_; (conv => rhs; simp only [Nf.ddR, Nf.all, Nat.reduceBEq, reduceAdd, reduceSub]); refine AR.gc [14, 11, 6, 4] rfl ?_; (conv => rhs; simp only [gcE, kO0, kO1, memN0, memN1, Nat.reduceBEq, cond_true, cond_false]); exact AR.perm (by kernel_rfl) hJ_2; refine AOps.allocN' rfl rfl rfl rfl ?_; refine nz ?_; refine AOps.nil ?_; refine onlyN_n ?_; (try refine nz ?_); refine AR.dd ?_; (conv => rhs; simp only [Nf.ddR, Nf.all, Nat.reduceBEq, reduceAdd, reduceSub]); refine AR.gc [15, 14, 11, 6, 4] rfl ?_; (conv => rhs; simp only [gcE, kO0, kO1, memN0, memN1, Nat.reduceBEq, cond_true, cond_false]); exact AR.perm (by kernel_rfl) hJ_4; refine AOps.extract rfl rfl rfl rfl ?_; refine AOps.nil ?_; refine onlyN_n ?_; (refine AR.step2M (i := 6) (j := 8) rfl (by kernel_rfl) rfl rfl ?_ ?_ <;> intro g_ hgro_ hw_); refine AOps.extract rfl rfl rfl rfl ?_; refine AOps.nil ?_; refine onlyN_n ?_; (try refine nz ?_); refine AR.meet hJ_2 (by kernel_rfl) (fun g_ => weak rfl ?_ ?_ rfl); (iterate 49 refine ⟨.eq rfl rfl, ?_⟩); exact trivial; refine ⟨.box _ rfl ?_, ?_⟩; refine ⟨.eq rfl rfl, ?_⟩; exact trivial; refine ⟨.box _ rfl ?_, ?_⟩; refine ⟨.eq rfl rfl, ?_⟩; exact trivial; refine ⟨.box _ rfl ?_, ?_⟩; (iterate 2 refine ⟨.eq rfl rfl, ?_⟩); exact trivial; refine ⟨.box _ rfl ?_, ?_⟩; (iterate 4 refine ⟨.eq rfl rfl, ?_⟩); (iterate 2 exact trivial); refine AOps.allocN' rfl rfl rfl rfl ?_; refine nz ?_; refine AOps.nil ?_; refine onlyN_n ?_; (try refine nz ?_); refine AR.dd ?_; (conv => rhs; simp only [Nf.ddR, Nf.all, Nat.reduceBEq, reduceAdd, reduceSub]); refine AR.gc [15, 14, 11, 6, 4] rfl ?_; (conv => rhs; simp only [gcE, kO0, kO1, memN0, memN1, Nat.reduceBEq, cond_true, cond_false]); exact AR.perm (by kernel_rfl) hJ_3; refine AOps.allocN' rfl rfl rfl rfl ?_; refine nz ?_; refine AOps.nil ?_; refine onlyN_n ?_; (try refine nz ?_); refine AR.dd ?_; (conv => rhs; simp only [Nf.ddR, Nf.all, Nat.reduceBEq, reduceAdd, reduceSub]); refine AR.gc [15, 14, 11, 6, 4] rfl ?_; (conv => rhs; simp only [gcE, kO0, kO1, memN0, memN1, Nat.reduceBEq, cond_true, cond_false]); exact AR.perm (by kernel_rfl) hJ_5; refine AOps.allocN' rfl rfl rfl rfl ?_; refine nz ?_; refine AOps.nil ?_; refine onlyN_n ?_; refine AR.step1M (i := 5) rfl (by kernel_rfl) rfl ?_; intro g_ hgro_ hw_; refine AOps.move_tup rfl rfl rfl ?_; refine AOps.nil ?_; refine onlyN_n ?_; (try refine nz ?_); refine AR.meet hJ_5 (by kernel_rfl) (fun g_ => weak rfl ?_ ?_ rfl); (iterate 48 refine ⟨.eq rfl rfl, ?_⟩); exact trivial; refine ⟨.box _ rfl ?_, ?_⟩; refine ⟨.eq rfl rfl, ?_⟩; exact trivial; refine ⟨.box _ rfl ?_, ?_⟩; refine ⟨.eq rfl rfl, ?_⟩; exact trivial; refine ⟨.box _ rfl ?_, ?_⟩; refine ⟨.eq rfl rfl, ?_⟩; exact trivial; refine ⟨.box _ rfl ?_, ?_⟩; (iterate 2 refine ⟨.eq rfl rfl, ?_⟩); exact trivial; refine ⟨.box _ rfl ?_, ?_⟩; (iterate 4 refine ⟨.eq rfl rfl, ?_⟩); (iterate 2 exact trivial); refine AOps.allocN' rfl rfl rfl rfl ?_; refine nz ?_; refine AOps.nil ?_; refine onlyN_n ?_; (try refine nz ?_); refine AR.dd ?_; (conv => rhs; simp only [Nf.ddR, Nf.all, Nat.reduceBEq, reduceAdd, reduceSub]); refine AR.gc [15, 14, 11, 6, 4] rfl ?_; (conv => rhs; simp only [gcE, kO0, kO1, memN0, memN1, Nat.reduceBEq, cond_true, cond_false]); exact AR.perm (by kernel_rfl) hJ_6; refine AOps.allocN' rfl rfl rfl rfl ?_; refine nz ?_; refine AOps.nil ?_; refine onlyN_n ?_; refine AR.step1M (i := 3) rfl (by kernel_rfl) rfl ?_; intro g_ hgro_ hw_; refine zP (fN) ?_; refine AOps.nil ?_; refine onlyN_n ?_; (try refine nz ?_); refine AR.meet hJ_6 (by kernel_rfl) (fun g_ => weak rfl ?_ ?_ rfl); (iterate 46 refine ⟨.eq rfl rfl, ?_⟩); exact trivial; refine ⟨.box _ rfl ?_, ?_⟩; refine ⟨.eq rfl rfl, ?_⟩; exact trivial; refine ⟨.box _ rfl ?_, ?_⟩; refine ⟨.eq rfl rfl, ?_⟩; exact trivial; refine ⟨.box _ rfl ?_, ?_⟩; refine ⟨.eq rfl rfl, ?_⟩; exact trivial; refine ⟨.box _ rfl ?_, ?_⟩; (iterate 2 refine ⟨.eq rfl rfl, ?_⟩); exact trivial; refine ⟨.box _ rfl ?_, ?_⟩; (iterate 4 refine ⟨.eq rfl rfl, ?_⟩); (iterate 2 exact trivial); refine AR.step1M (i := 4) rfl (by kernel_rfl) rfl ?_; intro g_ hgro_ hw_; refine zP (fB) ?_; refine AOps.nil ?_; refine onlyN_n ?_; refine AR.step1M (i := 5) rfl (by kernel_rfl) rfl ?_; intro g_ hgro_ hw_; refine AOps.move_tup rfl rfl rfl ?_; refine AOps.nil ?_; refine onlyN_n ?_; (try refine nz ?_); refine AR.meet hJ_5 (by kernel_rfl) (fun g_ => weak rfl ?_ ?_ rfl); (iterate 48 refine ⟨.eq rfl rfl, ?_⟩); exact trivial; refine ⟨.box _ rfl ?_, ?_⟩; refine ⟨.eq rfl rfl, ?_⟩; exact trivial; refine ⟨.box _ rfl ?_, ?_⟩; refine ⟨.eq rfl rfl, ?_⟩; exact trivial; refine ⟨.box _ rfl ?_, ?_⟩; refine ⟨.eq rfl rfl, ?_⟩; exact trivial; refine ⟨.box _ rfl ?_, ?_⟩; (iterate 2 refine ⟨.eq rfl rfl, ?_⟩); exact trivial; refine ⟨.box _ rfl ?_, ?_⟩; (iterate 4 refine ⟨.eq rfl rfl, ?_⟩); (iterate 2 exact trivial); (refine AR.step2M (i := 6) (j := 7) rfl (by kernel_rfl) rfl rfl ?_ ?_ <;> intro g_ hgro_ hw_); refine AOps.extract rfl rfl rfl rfl ?_; refine AOps.nil ?_; refine onlyN_n ?_; (try refine nz ?_); refine AR.meet hJ_4 (by kernel_rfl) (fun g_ => weak rfl ?_ ?_ rfl); (iterate 49 refine ⟨.eq rfl rfl, ?_⟩); exact trivial; refine ⟨.box _ rfl ?_, ?_⟩; refine ⟨.eq rfl rfl, ?_⟩; exact trivial; refine ⟨.box _ rfl ?_, ?_⟩; refine ⟨.eq rfl rfl, ?_⟩; exact trivial; refine ⟨.box _ rfl ?_, ?_⟩; refine ⟨.eq rfl rfl, ?_⟩; exact trivial; refine ⟨.box _ rfl ?_, ?_⟩; (iterate 2 refine ⟨.eq rfl rfl, ?_⟩); exact trivial; refine ⟨.box _ rfl ?_, ?_⟩; (iterate 4 refine ⟨.eq rfl rfl, ?_⟩); (iterate 2 exact trivial); refine AOps.extract rfl rfl rfl rfl ?_; refine AOps.nil ?_; refine onlyN_n ?_; (try refine nz ?_); refine AR.meet hJ_3 (by kernel_rfl) (fun g_ => weak rfl ?_ ?_ rfl); (iterate 49 refine ⟨.eq rfl rfl, ?_⟩); exact trivial; refine ⟨.box _ rfl ?_, ?_⟩; refine ⟨.eq rfl rfl, ?_⟩; exact trivial; refine ⟨.box _ rfl ?_, ?_⟩; refine ⟨.eq rfl rfl, ?_⟩; exact trivial; refine ⟨.box _ rfl ?_, ?_⟩; refine ⟨.eq rfl rfl, ?_⟩; exact trivial; refine ⟨.box _ rfl ?_, ?_⟩; (iterate 2 refine ⟨.eq rfl rfl, ?_⟩); exact trivial; refine ⟨.box _ rfl ?_, ?_⟩; (iterate 4 refine ⟨.eq rfl rfl, ?_⟩); (iterate 2 exact trivial); (refine AR.step2L (i := 7) (j := 9) rfl (by kernel_rfl) rfl rfl (by kernel_rfl) ?_ ?_ <;> intro g_ hgro_ hwt2_); refine AOps.extract rfl rfl rfl rfl ?_; refine AOps.nil ?_; refine onlyN_n ?_; (try refine nz ?_); refine AR.dd ?_; (conv => rhs; simp only [Nf.ddR, Nf.all, Nat.reduceBEq, reduceAdd, reduceSub]); exact AR.perm (by kernel_rfl) hJ_1; refine zB ?_; refine nz ?_; refine AOps.nil ?_; refine onlyN_n ?_; refine AR.step1LM (i := 7) rfl (by kernel_rfl) rfl (by kernel_rfl) ?_; intro g_ hgro_ hwt2_; refine AOps.extract rfl rfl rfl rfl ?_; refine AOps.nil ?_; refine onlyN_n ?_; (try refine nz ?_); refine AR.dd ?_; (conv => rhs; simp only [Nf.ddR, Nf.all, Nat.reduceBEq, reduceAdd, reduceSub]); exact AR.perm (by kernel_rfl) hJ_0; refine AR.step1M (i := 6) rfl (by kernel_rfl) rfl ?_; intro g_ hgro_ hw_; refine AOps.extract rfl rfl rfl rfl ?_; refine AOps.nil ?_; refine onlyN_n ?_; (try refine nz ?_); refine AR.meet hJ_1 (by kernel_rfl) (fun g_ => weak rfl ?_ ?_ rfl); (iterate 50 refine ⟨.eq rfl rfl, ?_⟩); exact trivial; refine ⟨.box _ rfl ?_, ?_⟩; refine ⟨.eq rfl rfl, ?_⟩; exact trivial; refine ⟨.box _ rfl ?_, ?_⟩; refine ⟨.eq rfl rfl, ?_⟩; exact trivial; refine ⟨.box _ rfl ?_, ?_⟩; refine ⟨.eq rfl rfl, ?_⟩; exact trivial; refine ⟨.box _ rfl ?_, ?_⟩; (iterate 2 refine ⟨.eq rfl rfl, ?_⟩); exact trivial; refine ⟨.box _ rfl ?_, ?_⟩; (iterate 4 refine ⟨.eq rfl rfl, ?_⟩); (iterate 2 exact trivial); refine AR.step1M (i := 8) rfl (by kernel_rfl) rfl ?_; intro g_ hgro_ hw_; refine AOps.allocN' rfl rfl rfl rfl ?_; refine nz ?_; refine AOps.nil ?_; refine onlyN_n ?_; (try refine nz ?_); refine AR.meet hJ_1 (by kernel_rfl) (fun g_ => weak rfl ?_ ?_ rfl); (iterate 50 refine ⟨.eq rfl rfl, ?_⟩); exact trivial; refine ⟨.box _ rfl ?_, ?_⟩; refine ⟨.eq rfl rfl, ?_⟩; exact trivial; refine ⟨.box _ rfl ?_, ?_⟩; refine ⟨.eq rfl rfl, ?_⟩; exact trivial; refine ⟨.box _ rfl ?_, ?_⟩; refine ⟨.eq rfl rfl, ?_⟩; exact trivial; refine ⟨.box _ rfl ?_, ?_⟩; (iterate 2 refine ⟨.eq rfl rfl, ?_⟩); exact trivial; refine ⟨.box _ rfl ?_, ?_⟩; (iterate 4 refine ⟨.eq rfl rfl, ?_⟩); (iterate 2 exact trivial); refine AR.step1LM (i := 9) rfl (by kernel_rfl) rfl (by kernel_rfl) ?_; intro g_ hgro_ hwt2_; refine zB ?_; refine nz ?_; refine AOps.nil ?_; refine onlyN_n ?_; (try refine nz ?_); refine AR.meet hJ_0 (by kernel_rfl) (fun g_ => weak rfl ?_ ?_ rfl); (iterate 50 refine ⟨.eq rfl rfl, ?_⟩); exact trivial; refine ⟨.box _ rfl ?_, ?_⟩; refine ⟨.eq rfl rfl, ?_⟩; exact trivial; refine ⟨.box _ rfl ?_, ?_⟩; refine ⟨.eq rfl rfl, ?_⟩; exact trivial; refine ⟨.box _ rfl ?_, ?_⟩; refine ⟨.eq rfl rfl, ?_⟩; exact trivial; refine ⟨.box _ rfl ?_, ?_⟩; (iterate 2 refine ⟨.eq rfl rfl, ?_⟩); exact trivial; refine ⟨.box _ rfl ?_, ?_⟩; (iterate 4 refine ⟨.eq rfl rfl, ?_⟩); (iterate 2 exact trivial); refine AR.step1LM (i := 10) rfl (by kernel_rfl) rfl (by kernel_rfl) ?_; intro g_ hgro_ hwt2_; refine za ?_; refine AOps.nil ?_; refine onlyN_n ?_; refine AR.doneM (by assumption) (by kernel_rfl) ?_; refine thenD_n ?_; refine zq ?_; refine nz ?_; refine zm ?_; refine AOps.bs8 rfl rfl rfl rfl rfl rfl rfl rfl rfl rfl rfl rfl rfl rfl rfl rfl rfl rfl rfl rfl rfl rfl rfl rfl rfl rfl rfl rfl rfl ?_; refine nz ?_; refine zA (fS) ?_; refine zm ?_; refine zl ?_; refine zL ?_; refine nz ?_; refine zl ?_; refine AOps.bs2 rfl rfl rfl rfl rfl rfl rfl rfl rfl rfl rfl ?_; refine nz ?_; refine zl ?_; refine zm ?_; refine zl ?_; refine zA (e1) ?_; refine AOps.pick_lt rfl rfl rfl rfl rfl rfl ?_; refine zm ?_; refine zl ?_; refine zL ?_; refine nz ?_; refine zl ?_; refine AOps.bs2 rfl rfl rfl rfl rfl rfl rfl rfl rfl rfl rfl ?_; refine nz ?_; refine zl ?_; refine zm ?_; refine zl ?_; refine zA (e2) ?_; refine AOps.pick_lt rfl rfl rfl rfl rfl rfl ?_; refine zm ?_; refine zl ?_; refine zL ?_; refine nz ?_; refine zl ?_; refine AOps.bs2 rfl rfl rfl rfl rfl rfl rfl rfl rfl rfl rfl ?_; refine nz ?_; refine zl ?_; refine zm ?_; refine zl ?_; refine zA (e3) ?_; refine zl ?_; refine AOps.not rfl rfl rfl ?_; refine AOps.pick_lt rfl rfl rfl rfl rfl rfl ?_; refine zm ?_; refine zl ?_; refine zL ?_; refine nz ?_; refine zl ?_; refine AOps.bs2 rfl rfl rfl rfl rfl rfl rfl rfl rfl rfl rfl ?_; refine nz ?_; refine zl ?_; refine zm ?_; refine zl ?_; refine zA (e4) ?_; refine AOps.pick_lt rfl rfl rfl rfl rfl rfl ?_; refine zm ?_; refine zl ?_; refine zm ?_; refine zl ?_; refine AOps.eql rfl rfl rfl rfl rfl ?_; refine AOps.pick_lt rfl rfl rfl rfl rfl rfl ?_; refine zm ?_; refine zl ?_; refine AOps.fieldAddrN 31 0 0 rfl rfl rfl rfl ?_; refine zl ?_; refine zb ?_; refine zl ?_; refine zn ?_; refine zl ?_; refine AOps.eql rfl rfl rfl rfl rfl ?_; refine AOps.pick_lt rfl rfl rfl rfl rfl rfl ?_; refine zm ?_; refine zl ?_; refine zm ?_; refine zl ?_; refine AOps.eql rfl rfl rfl rfl rfl ?_; refine AOps.pick_lt rfl rfl rfl rfl rfl rfl ?_; refine zm ?_; refine zl ?_; refine AOps.bs2 rfl rfl rfl rfl rfl rfl rfl rfl rfl rfl rfl ?_; refine nz ?_; refine zl ?_; refine AOps.bs2 rfl rfl rfl rfl rfl rfl rfl rfl rfl rfl rfl ?_; refine nz ?_; refine zl ?_; refine AOps.frzB rfl rfl ?_; refine nz ?_; refine AOps.bs1 rfl rfl rfl rfl rfl rfl rfl rfl ?_; refine nz ?_; refine zl ?_; refine zA (l1) ?_; refine AOps.pick_lt rfl rfl rfl rfl rfl rfl ?_; refine zm ?_; refine zl ?_; refine AOps.bs1 rfl rfl rfl rfl rfl rfl rfl rfl ?_; refine nz ?_; refine zl ?_; refine AOps.bs2 rfl rfl rfl rfl rfl rfl rfl rfl rfl rfl rfl ?_; refine nz ?_; refine zl ?_; refine AOps.frzB rfl rfl ?_; refine nz ?_; refine AOps.bs1 rfl rfl rfl rfl rfl rfl rfl rfl ?_; refine nz ?_; refine zl ?_; refine zA (l2) ?_; refine zl ?_; refine AOps.not rfl rfl rfl ?_; refine AOps.pick_lt rfl rfl rfl rfl rfl rfl ?_; refine zm ?_; refine zl ?_; refine zA (l3) ?_; refine AOps.pick_lt rfl rfl rfl rfl rfl rfl ?_; refine za ?_; refine zd ?_; refine AW.ret ?_)
  (apply ends_ret; (exact Res.one (.tmp rfl rfl)); (refine Le.litB ?_; (rfl)))
end Go.Ab
/- Chapter 24: the reference's free tuples and variables, walked. -/
namespace Go.Ab
open Go Go.Proofs
open Nat (reduceAdd reduceSub)
set_option maxRecDepth 20000
set_option maxHeartbeats 4000000
attribute [local irreducible] AW AOps thenD inBlockD AR iterEnds roundEndsN inlEnds noGotoD canon diffL interL subL relOk rks freeL
theorem has9_fn (l : List Int) (x : Int) (hl : l.length ≤ 1000000) : Fn Try.prog 89 [.pv (ints l), litI x] (litB (decide (x ∈ l))) := by
  refine Fn.enter (n := 18) Try.func89 rfl rfl rfl rfl rfl (by decide) fun g hro_ hwt_ => ?_; (try refine nz ?_)
  (refine zq ?_; refine za ?_; refine zd ?_; refine zo ?_; refine zq ?_; refine nz ?_; refine za ?_; refine zd ?_; refine AW.block ?_)
  (refine nz ?_; apply AW.loopR [0, 1] [] (fun i : Nat => ([(5, litI i)] : List (Nat × AV))) (fun i : Nat => ([] : List (Nat × Option Ob))) (fun i : Nat => i ≤ l.length ∧ x ∉ l.take i) (fun i : Nat => l.length - i) (0); (conv => lhs; simp only [Nf.lpR, Nf.all, Nat.reduceBEq, reduceAdd, reduceSub]); (all_goals skip))
  · exact ⟨Nat.zero_le _, by simp⟩
  · exact weak rfl (by (refine ⟨.eq rfl rfl, ?_⟩; (iterate 2 refine ⟨.eq rfl rfl, ?_⟩); exact trivial)) (by (exact trivial)) rfl
  rintro i ⟨hi, hno⟩
  by_cases hlt : i < l.length
  · by_cases hq : l[i] = x
    · have hm : x ∈ l := by rw [← hq]; exact List.getElem_mem hlt
      rw [decide_eq_true hm]
      (refine zo ?_; refine zq ?_; (iterate 2 refine zm ?_); refine zn ?_; refine zs ?_; refine zd ?_; refine zc ?_; refine AW.skip ?_; refine thenD_n ?_; refine zo ?_; refine AW.block ?_; refine zq ?_; refine nz ?_; (iterate 2 refine zm ?_); (focus ((with_reducible apply AOps.index_map); (iterate 7 exact rfl); rotate_left; omega)); refine zr ?_; refine zm ?_; refine AOps.eql rfl rfl rfl rfl rfl ?_; refine zd ?_; refine zc ?_; refine zq ?_; refine nz ?_; refine za ?_; refine zd ?_; refine AW.ret ?_; refine inBlockD_ret ?_; (iterate 2 refine thenD_ret ?_); refine inBlockD_ret ?_; refine thenD_ret ?_)
      (apply ends_ret; (exact Res.one (.tmp rfl rfl)); (refine Le.litB ?_; (rfl)))
    · (refine zo ?_; refine zq ?_; (iterate 2 refine zm ?_); refine zn ?_; refine zs ?_; refine zd ?_; refine zc ?_; refine AW.skip ?_; refine thenD_n ?_; refine zo ?_; refine AW.block ?_; refine zq ?_; refine nz ?_; (iterate 2 refine zm ?_); (focus ((with_reducible apply AOps.index_map); (iterate 7 exact rfl); rotate_left; omega)); refine zr ?_; refine zm ?_; refine AOps.eql rfl rfl rfl rfl rfl ?_; refine zd ?_; refine zk ?_; refine AW.skip ?_; refine inBlockD_n ?_; refine thenD_n ?_; refine AW.region ?_; refine nz ?_; refine zm ?_; refine zj ?_; refine za ?_; refine zd ?_)
      exact ⟨i + 1, ⟨by omega, by rw [take_succ_get hlt]; exact fun h => (List.mem_append.1 h).elim hno fun h => hq (List.mem_singleton.1 h).symm⟩, by omega, weak rfl (by (refine ⟨.eq rfl rfl, ?_⟩; (iterate 2 refine ⟨.eq rfl rfl, ?_⟩); exact trivial)) (by (exact trivial)) rfl⟩
  · rw [take_all (l := l) (by omega)] at hno
    rw [decide_eq_false hno]
    (refine zo ?_; refine zq ?_; (iterate 2 refine zm ?_); refine zn ?_; refine zs ?_; refine zd ?_; refine zk ?_; refine AW.exit ?_; (iterate 2 refine thenD_exit ?_); refine inBlockD_exit ?_; refine thenD_n ?_; refine zq ?_; refine nz ?_; refine za ?_; refine zd ?_; refine AW.ret ?_)
    (apply ends_ret; (exact Res.one (.tmp rfl rfl)); (refine Le.litB ?_; (rfl)))
theorem r9free_fn (bs : List BndM) (hb : bs.length ≤ 1000) (hb2 : ∀ x ∈ bs, x.1.2.length ≤ 100000 ∧ x.2.2.length ≤ 100000) : Fn Try.prog 63 [.pv (bnds bs)] (.pv (prs (freeL 0 bs))) := by
  refine Fn.enter (n := 55) Try.func63 rfl rfl rfl rfl rfl (by decide) fun g hro_ hwt_ => ?_; (try refine nz ?_)
  (refine zq ?_; refine za ?_; refine zd ?_; refine zq ?_; refine nz ?_; refine za ?_; refine zd ?_; refine zo ?_; refine zq ?_; refine nz ?_; refine za ?_; refine zd ?_; refine AW.block ?_)
  (refine nz ?_; apply AW.loopR [2, 0] [] (fun k : Nat => ([(3, .own 0 124 2 ((freeL 0 (bs.take k)).map encPr)), (4, litI k)] : List (Nat × AV))) (fun k : Nat => ([(0, some .row)] : List (Nat × Option Ob))) (fun k : Nat => k ≤ bs.length) (fun k : Nat => bs.length - k) (0); (conv => lhs; simp only [Nf.lpR, Nf.all, Nat.reduceBEq, reduceAdd, reduceSub]); (all_goals skip))
  · exact Nat.zero_le _
  · exact weak rfl (by (refine ⟨.nilownE (by first | rfl | (unfold freeL; rfl) | simp [freeL]) rfl rfl, ?_⟩; refine ⟨.intE (by first | with_reducible rfl | (first | rfl | (unfold freeL; rfl) | simp [freeL])), ?_⟩; refine ⟨.eq rfl rfl, ?_⟩; refine ⟨.pvE (by first | with_reducible rfl | (first | rfl | (unfold freeL; rfl) | simp [freeL])), ?_⟩; exact trivial)) (by (refine ⟨.newrow rfl, ?_⟩; exact trivial)) rfl
  rintro k hk
  have hfl := freeL_len bs 0 k fun x hx => (hb2 x hx).2
  by_cases hlt : k < bs.length
  · have hsn := freeL_snoc bs 0 k hlt
    rw [Nat.zero_add] at hsn
    obtain ⟨hx1, hx2⟩ := hb2 _ (List.getElem_mem hlt)
    have hhs := fun t => has9_fn bs[k].1.2 t (by omega)
    (refine zo ?_; refine zq ?_; (iterate 2 refine zm ?_); refine zn ?_; refine zs ?_; refine zd ?_; refine zc ?_; refine AW.skip ?_; refine thenD_n ?_; refine zo ?_; refine AW.block ?_; refine zq ?_; refine nz ?_; refine za ?_; refine zd ?_; refine AW.block ?_)
    (refine nz ?_; apply AW.loopR [4, 2, 0] [] (fun i : Nat => ([(3, .own 0 124 2 ((freeL 0 (bs.take k) ++ freeO k (diffL (bs[k].2.2.take i) bs[k].1.2)).map encPr)), (5, litI i)] : List (Nat × AV))) (fun i : Nat => ([(0, some .row)] : List (Nat × Option Ob))) (fun i : Nat => i ≤ bs[k].2.2.length) (fun i : Nat => bs[k].2.2.length - i) (0); (conv => lhs; simp only [Nf.lpR, Nf.all, Nat.reduceBEq, reduceAdd, reduceSub]); (all_goals skip))
    · exact Nat.zero_le _
    · exact weak rfl (by (refine ⟨.ownE (by first | with_reducible rfl | (first | rfl | simp [freeO, diffL] | (unfold diffL; simp [freeO]))) rfl, ?_⟩; refine ⟨.intE (by first | with_reducible rfl | (first | rfl | simp [freeO, diffL] | (unfold diffL; simp [freeO]))), ?_⟩; refine ⟨.intE (by first | with_reducible rfl | (first | rfl | simp [freeO, diffL] | (unfold diffL; simp [freeO]))), ?_⟩; refine ⟨.eq rfl rfl, ?_⟩; refine ⟨.pvE (by first | with_reducible rfl | (first | rfl | simp [freeO, diffL] | (unfold diffL; simp [freeO]))), ?_⟩; exact trivial)) (by (refine ⟨.row rfl, ?_⟩; exact trivial)) rfl
    rintro i hi
    have hdl := diffL_len bs[k].2.2 bs[k].1.2 i
    have hfo : (freeO k (diffL (bs[k].2.2.take i) bs[k].1.2)).length ≤ i := by unfold freeO; rw [List.length_map]; exact hdl
    by_cases hlt2 : i < bs[k].2.2.length
    · have hs2 := undL_snoc (x := bs[k]) hlt2
      have hbi := hhs bs[k].2.2[i]
      by_cases hm : bs[k].2.2[i] ∈ bs[k].1.2
      · rw [decide_eq_true hm] at hbi
        rw [if_neg (fun h => h hm), List.append_nil] at hs2
        (refine zo ?_; refine zq ?_; (iterate 3 refine zm ?_); (focus ((with_reducible apply AOps.index_map); (iterate 7 exact rfl); rotate_left; omega)); refine AOps.fieldAddr_rN 109 1 2 2 rfl rfl rfl rfl ?_; refine nz ?_; refine AOps.fieldAddr_rN 99 1 1 1 rfl rfl rfl rfl ?_; refine nz ?_; refine zr ?_; refine zn ?_; refine zs ?_; refine zd ?_; refine zc ?_; refine AW.skip ?_; refine thenD_n ?_; refine zo ?_; refine AW.block ?_; refine zo ?_; (with_reducible apply AW.regionQ); exact rfl; exact rfl; kernel_rfl; (with_reducible assumption); (iterate 2 refine zm ?_); (focus ((with_reducible apply AOps.index_map); (iterate 7 exact rfl); rotate_left; omega)); refine AOps.fieldAddr_rN 109 0 0 2 rfl rfl rfl rfl ?_; refine nz ?_; refine AOps.fieldAddr_rN 99 1 1 1 rfl rfl rfl rfl ?_; refine nz ?_; refine zr ?_; (iterate 2 refine zm ?_); (focus ((with_reducible apply AOps.index_map); (iterate 7 exact rfl); rotate_left; omega)); refine AOps.fieldAddr_rN 109 1 2 2 rfl rfl rfl rfl ?_; refine nz ?_; refine AOps.fieldAddr_rN 99 1 1 1 rfl rfl rfl rfl ?_; refine nz ?_; refine zr ?_; refine zm ?_; (focus ((with_reducible apply AOps.index_map); (iterate 7 exact rfl); rotate_left; omega)); refine zr ?_; refine zA (hbi) ?_; refine AOps.not rfl rfl rfl ?_; refine zd ?_; refine AW.cond_lf rfl rfl ?_; refine AW.skip ?_; refine inBlockD_n ?_; refine thenD_n ?_; refine AW.region ?_; refine nz ?_; refine zm ?_; refine zj ?_; refine za ?_; refine zd ?_)
        exact ⟨i + 1, by omega, by omega, weak rfl (by (refine ⟨.ownE (by first | with_reducible rfl | (first | rfl | (rw [hs2]))) rfl, ?_⟩; refine ⟨.intE (by first | with_reducible rfl | (first | rfl | (rw [hs2]))), ?_⟩; refine ⟨.intE (by first | with_reducible rfl | (first | rfl | (rw [hs2]))), ?_⟩; refine ⟨.eq rfl rfl, ?_⟩; refine ⟨.pvE (by first | with_reducible rfl | (first | rfl | (rw [hs2]))), ?_⟩; exact trivial)) (by (refine ⟨.row rfl, ?_⟩; exact trivial)) rfl⟩
      · rw [decide_eq_false hm] at hbi
        rw [if_pos hm] at hs2
        (refine zo ?_; refine zq ?_; (iterate 3 refine zm ?_); (focus ((with_reducible apply AOps.index_map); (iterate 7 exact rfl); rotate_left; omega)); refine AOps.fieldAddr_rN 109 1 2 2 rfl rfl rfl rfl ?_; refine nz ?_; refine AOps.fieldAddr_rN 99 1 1 1 rfl rfl rfl rfl ?_; refine nz ?_; refine zr ?_; refine zn ?_; refine zs ?_; refine zd ?_; refine zc ?_; refine AW.skip ?_; refine thenD_n ?_; refine zo ?_; refine AW.block ?_; refine zo ?_; (with_reducible apply AW.regionQ); exact rfl; exact rfl; kernel_rfl; (with_reducible assumption); (iterate 2 refine zm ?_); (focus ((with_reducible apply AOps.index_map); (iterate 7 exact rfl); rotate_left; omega)); refine AOps.fieldAddr_rN 109 0 0 2 rfl rfl rfl rfl ?_; refine nz ?_; refine AOps.fieldAddr_rN 99 1 1 1 rfl rfl rfl rfl ?_; refine nz ?_; refine zr ?_; (iterate 2 refine zm ?_); (focus ((with_reducible apply AOps.index_map); (iterate 7 exact rfl); rotate_left; omega)); refine AOps.fieldAddr_rN 109 1 2 2 rfl rfl rfl rfl ?_; refine nz ?_; refine AOps.fieldAddr_rN 99 1 1 1 rfl rfl rfl rfl ?_; refine nz ?_; refine zr ?_; refine zm ?_; (focus ((with_reducible apply AOps.index_map); (iterate 7 exact rfl); rotate_left; omega)); refine zr ?_; refine zA (hbi) ?_; refine AOps.not rfl rfl rfl ?_; refine zd ?_; refine AW.cond_lt rfl rfl ?_; refine AW.region ?_; refine nz ?_; refine AOps.move_own rfl rfl rfl ?_; (iterate 3 refine zm ?_); (focus ((with_reducible apply AOps.index_map); (iterate 7 exact rfl); rotate_left; omega)); refine AOps.fieldAddr_rN 109 1 2 2 rfl rfl rfl rfl ?_; refine nz ?_; refine AOps.fieldAddr_rN 99 1 1 1 rfl rfl rfl rfl ?_; refine nz ?_; refine zr ?_; refine zm ?_; (focus ((with_reducible apply AOps.index_map); (iterate 7 exact rfl); rotate_left; omega)); refine zr ?_; refine AOps.ba2 rfl rfl rfl rfl rfl rfl rfl rfl rfl rfl rfl rfl ?_; refine AOps.bs1a2 rfl rfl rfl rfl rfl rfl rfl rfl rfl ?_; refine nz ?_; (with_reducible apply AOps.appendS); exact rfl; (first | exact .pv rfl | exact .own rfl | exact .nil rfl); (iterate 9 exact rfl); (first | omega | (simp only [List.length_map, List.length_append, List.length_cons, List.length_nil, List.length_drop, List.length_take, List.length_set, chunk_len]; omega)); refine nz ?_; refine AOps.assign_own rfl rfl rfl ?_; refine AOps.nil ?_; refine inBlockD_n ?_; refine thenD_n ?_; refine AW.region ?_; refine nz ?_; refine zm ?_; refine zj ?_; refine za ?_; refine zd ?_)
        exact ⟨i + 1, by omega, by omega, weak rfl (by (refine ⟨.ownE (by first | with_reducible rfl | (first | rfl | (rw [hs2]; unfold freeO; simp [encPr]))) rfl, ?_⟩; refine ⟨.intE (by first | with_reducible rfl | (first | rfl | (rw [hs2]; unfold freeO; simp [encPr]))), ?_⟩; refine ⟨.intE (by first | with_reducible rfl | (first | rfl | (rw [hs2]; unfold freeO; simp [encPr]))), ?_⟩; refine ⟨.eq rfl rfl, ?_⟩; refine ⟨.pvE (by first | with_reducible rfl | (first | rfl | (rw [hs2]; unfold freeO; simp [encPr]))), ?_⟩; exact trivial)) (by (refine ⟨.row rfl, ?_⟩; exact trivial)) rfl⟩
    · rw [take_all (l := bs[k].2.2) (by omega)]
      (refine zo ?_; refine zq ?_; (iterate 3 refine zm ?_); (focus ((with_reducible apply AOps.index_map); (iterate 7 exact rfl); rotate_left; omega)); refine AOps.fieldAddr_rN 109 1 2 2 rfl rfl rfl rfl ?_; refine nz ?_; refine AOps.fieldAddr_rN 99 1 1 1 rfl rfl rfl rfl ?_; refine nz ?_; refine zr ?_; refine zn ?_; refine zs ?_; refine zd ?_; refine zk ?_; refine AW.exit ?_; (iterate 2 refine thenD_exit ?_); refine inBlockD_exit ?_; refine inBlockD_n ?_; refine thenD_n ?_; refine AW.region ?_; refine nz ?_; refine zm ?_; refine zj ?_; refine za ?_; refine zd ?_)
      exact ⟨k + 1, by omega, by omega, weak rfl (by (refine ⟨.ownE (by first | with_reducible rfl | (first | rfl | (rw [hsn]; rfl))) rfl, ?_⟩; refine ⟨.intE (by first | with_reducible rfl | (first | rfl | (rw [hsn]; rfl))), ?_⟩; refine ⟨.eq rfl rfl, ?_⟩; refine ⟨.pvE (by first | with_reducible rfl | (first | rfl | (rw [hsn]; rfl))), ?_⟩; exact trivial)) (by (refine ⟨.row rfl, ?_⟩; exact trivial)) rfl⟩
  · rw [take_all (l := bs) (by omega)]
    (refine zo ?_; refine zq ?_; (iterate 2 refine zm ?_); refine zn ?_; refine zs ?_; refine zd ?_; refine zk ?_; refine AW.exit ?_; (iterate 2 refine thenD_exit ?_); refine inBlockD_exit ?_; refine thenD_n ?_; refine zq ?_; refine nz ?_; refine AOps.move_own rfl rfl rfl ?_; refine AOps.assign_own rfl rfl rfl ?_; refine zd ?_; refine AW.ret ?_)
    (apply ends_ret; (exact Res.one (.tmp rfl rfl)); (exact Le.own _ _ _ _ rfl))
abbrev encT3 (v : VarT) : List PV := [.lit (.int .i64 v.1), .lit (.int .i64 v.2.1), .lit (.int .i64 v.2.2)]
abbrev varsV (l : List VarT) : PV := .slice 3 (l.map encT3)
theorem selR (k : Nat) : selV 1 (k + 1) = selV 1 k ++ [(-1, 0, (k : Int) + 1)] := selV_snoc 1 k
attribute [local irreducible] selV stP
structure VarOk (s : SpecM) (st : Nat) (bs : List BndM) : Prop where
  stb : 1 ≤ st ∧ st ≤ 4
  nb : bs.length = s.fields.length ∧ bs.length ≤ 10
  sm : ∀ x ∈ bs, x.1.2.length ≤ 2000 ∧ x.2.2.length ≤ 2000
theorem vars24_fn (s : SpecM) (at' : List Int) (st : Nat) (bs : List BndM) (h : VarOk s st bs) : Fn Try.prog 36 [spc s, scp at' (st : Int), .pv (bnds bs)] (.pv (varsV (varsM 1 st (freeL 0 bs) fun f => (s.fields.getD f.toNat ⟨ByteArray.empty, [], false⟩).var))) := by
  have hst1 := h.stb.1
  have hst2 := h.stb.2
  have hfree := r9free_fn bs (by have := h.nb.2; omega) (fun x hx => by have := h.sm x hx; omega)
  have hfl : (freeL 0 bs).length ≤ 1000000 := by
    have h1 := freeL_len bs 0 bs.length fun x hx => Nat.le_trans (h.sm x hx).2 (by omega)
    rw [List.take_length] at h1
    have := h.nb.2
    omega
  have hfd : ∀ (k : Nat) (hk : k < (freeL 0 bs).length), 0 ≤ (freeL 0 bs)[k].1 ∧ ∃ hh : (freeL 0 bs)[k].1.toNat < s.fields.length, (s.fields.getD (freeL 0 bs)[k].1.toNat ⟨ByteArray.empty, [], false⟩).var = s.fields[(freeL 0 bs)[k].1.toNat].var := fun k hk => by
    obtain ⟨j, hj, h1, _⟩ := freeL_mem (List.getElem_mem hk)
    have hnb := h.nb.1
    refine ⟨by omega, by omega, ?_⟩
    rw [getD_of (by omega)]
  obtain ⟨so, fs, pr, fa⟩ := s
  simp only at *
  generalize hvr : (fun f : Int => (fs.getD f.toNat ⟨ByteArray.empty, [], false⟩).var) = vr
  have hvr' : ∀ f : Int, (fs.getD f.toNat ⟨ByteArray.empty, [], false⟩).var = vr f := fun f => by rw [← hvr]
  simp only [hvr'] at hfd
  generalize freeL 0 bs = fr at hfree hfl hfd ⊢
  have hlen : ∀ s k, s ≤ st → (stP 1 st fr vr s k).length ≤ 6000000 := fun s k hs => by
    have h1 := stP_len (o := 1) (fr := fr) (vr := vr) (k := k) hs
    have h2 : (s + 1) * fr.length ≤ 5 * 1000000 := Nat.mul_le_mul (by omega) hfl
    omega
  rw [← stP_end]
  by_cases h1 : 1 < st
  · have hsn : selN st = st := if_pos h1
    refine Fn.enter (n := 78) Try.func36 rfl rfl rfl rfl rfl (by decide) fun g hro_ hwt_ => ?_; (try refine nz ?_)
    (refine zq ?_; refine AOps.box rfl rfl rfl rfl ?_; refine nz ?_; refine AOps.box rfl rfl rfl rfl ?_; refine nz ?_; refine za ?_; refine zd ?_; refine zq ?_; refine nz ?_; refine za ?_; refine zd ?_; refine zo ?_; refine zq ?_; refine nz ?_; refine AOps.fieldAddrN 49 1 1 rfl rfl rfl rfl ?_; refine zb ?_; refine AOps.gtr rfl rfl rfl rfl rfl ?_; refine zd ?_; refine zc ?_; refine zq ?_; refine nz ?_; refine za ?_; refine zd ?_; refine AW.block ?_)
    (refine nz ?_; apply AW.loopR [6, 4, 3, 2] [1, 0] (fun k : Nat => ([(8, litI ((k : Int) + 1)), (7, .own 2 121 3 ((selV 1 k).map encT3))] : List (Nat × AV))) (fun k : Nat => ([(2, some .row)] : List (Nat × Option Ob))) (fun k : Nat => k ≤ st) (fun k : Nat => st - k) (0); (conv => lhs; simp only [Nf.lpR, Nf.all, Nat.reduceBEq, reduceAdd, reduceSub]); (all_goals skip))
    · exact Nat.zero_le _
    · rw [show selV 1 0 = [] by unfold selV; rfl]
      exact weak rfl (by (first | (refine ⟨.eq rfl rfl, ?_⟩; (iterate 7 refine ⟨.eq rfl rfl, ?_⟩); exact trivial) | (refine ⟨.eq rfl rfl, ?_⟩; (iterate 6 refine ⟨.eq rfl rfl, ?_⟩); exact trivial) | (refine ⟨.eq rfl rfl, ?_⟩; refine ⟨.nilown _ _ _ rfl rfl, ?_⟩; (iterate 5 refine ⟨.eq rfl rfl, ?_⟩); exact trivial) | (refine ⟨.eq rfl rfl, ?_⟩; refine ⟨.nilown _ _ _ rfl rfl, ?_⟩; (iterate 4 refine ⟨.eq rfl rfl, ?_⟩); exact trivial))) (by (first | (refine ⟨.newrow rfl, ?_⟩; refine ⟨.box _ rfl ?_, ?_⟩; (iterate 2 refine ⟨.eq rfl rfl, ?_⟩); exact trivial; refine ⟨.box _ rfl ?_, ?_⟩; (iterate 4 refine ⟨.eq rfl rfl, ?_⟩); (iterate 2 exact trivial)) | (refine ⟨.row rfl, ?_⟩; refine ⟨.box _ rfl ?_, ?_⟩; (iterate 2 refine ⟨.eq rfl rfl, ?_⟩); exact trivial; refine ⟨.box _ rfl ?_, ?_⟩; (iterate 4 refine ⟨.eq rfl rfl, ?_⟩); (iterate 2 exact trivial)))) rfl
    rintro k hk
    have hol := selV_len 1 k
    by_cases hlt : k < st
    · have hs := selR k
      (refine zo ?_; refine zq ?_; refine zm ?_; refine AOps.fieldAddrN 49 1 1 rfl rfl rfl rfl ?_; refine zb ?_; refine AOps.leq rfl rfl rfl rfl rfl ?_; refine zm ?_; refine zt ?_; refine zm ?_; refine zt ?_; refine AOps.leq rfl rfl rfl rfl rfl ?_; refine zT ?_; refine zd ?_; refine zc ?_; refine AW.skip ?_; refine thenD_n ?_; refine zo ?_; refine AW.block ?_; refine AW.region ?_; refine nz ?_; refine AOps.move_own rfl rfl rfl ?_; refine zm ?_; refine AOps.buildN 121 [0, 2] rfl rfl rfl rfl rfl rfl rfl rfl rfl ?_; refine nz ?_; refine AOps.bs1a3 rfl rfl rfl rfl rfl rfl rfl rfl rfl rfl ?_; refine nz ?_; (with_reducible apply AOps.appendS); exact rfl; (first | exact .pv rfl | exact .own rfl | exact .nil rfl); (iterate 9 exact rfl); (first | omega | (simp only [List.length_map, List.length_append, List.length_cons, List.length_nil, List.length_drop, List.length_take, List.length_set, chunk_len]; omega)); refine nz ?_; refine AOps.assign_own rfl rfl rfl ?_; refine AOps.nil ?_; refine inBlockD_n ?_; refine thenD_n ?_; refine AW.region ?_; refine nz ?_; refine zm ?_; refine zj ?_; refine za ?_; refine zd ?_)
      exact ⟨k + 1, by omega, by omega, weak rfl (by (refine ⟨.intE (by first | with_reducible rfl | (first | rfl | (rw [hs, List.map_append]; rfl))), ?_⟩; refine ⟨.ownE (by first | with_reducible rfl | (first | rfl | (rw [hs, List.map_append]; rfl))) rfl, ?_⟩; (iterate 3 refine ⟨.eq rfl rfl, ?_⟩); refine ⟨.pvE (by first | with_reducible rfl | (first | rfl | (rw [hs, List.map_append]; rfl))), ?_⟩; exact trivial)) (by (refine ⟨.row rfl, ?_⟩; refine ⟨.box _ rfl ?_, ?_⟩; refine ⟨.pvE (by first | with_reducible rfl | (first | rfl | (rw [hs, List.map_append]; rfl))), ?_⟩; refine ⟨.intE (by first | with_reducible rfl | (first | rfl | (rw [hs, List.map_append]; rfl))), ?_⟩; exact trivial; refine ⟨.box _ rfl ?_, ?_⟩; refine ⟨.pvE (by first | with_reducible rfl | (first | rfl | (rw [hs, List.map_append]; rfl))), ?_⟩; refine ⟨.pvE (by first | with_reducible rfl | (first | rfl | (rw [hs, List.map_append]; rfl))), ?_⟩; (iterate 2 refine ⟨.eq rfl rfl, ?_⟩); (iterate 2 exact trivial))) rfl⟩
    · obtain rfl : st = k := by omega
      have hss : stP 1 st fr vr 0 0 = selV 1 st := by rw [stP_start, hsn]
      (refine zo ?_; refine zq ?_; refine zm ?_; refine AOps.fieldAddrN 49 1 1 rfl rfl rfl rfl ?_; refine zb ?_; refine AOps.leq rfl rfl rfl rfl rfl ?_; refine zm ?_; (iterate 2 refine AOps.guardTn rfl rfl rfl rfl rfl rfl (by first | omega | decide) ?_); refine zF ?_; refine zd ?_; refine AW.cond_lf rfl rfl ?_; refine AW.exit ?_; (iterate 2 refine thenD_exit ?_); refine inBlockD_exit ?_; refine thenD_n ?_; refine zq ?_; refine nz ?_; refine zm ?_; refine zP (hfree) ?_; refine za ?_; refine zd ?_; refine zo ?_; refine zq ?_; refine nz ?_; refine za ?_; refine zd ?_; refine AW.block ?_)
      (refine nz ?_; apply AW.loopR [9, 6, 4, 3, 2] [1, 0] (fun s : Nat => ([(10, litI s), (7, .own 2 121 3 ((stP 1 st fr vr s 0).map encT3))] : List (Nat × AV))) (fun s : Nat => ([(2, some .row)] : List (Nat × Option Ob))) (fun s : Nat => s ≤ st) (fun s : Nat => st - s) (0); (conv => lhs; simp only [Nf.lpR, Nf.all, Nat.reduceBEq, reduceAdd, reduceSub]); (all_goals skip))
      · exact Nat.zero_le _
      · rw [hss]
        exact weak rfl (by (first | (refine ⟨.eq rfl rfl, ?_⟩; (iterate 7 refine ⟨.eq rfl rfl, ?_⟩); exact trivial) | (refine ⟨.eq rfl rfl, ?_⟩; (iterate 6 refine ⟨.eq rfl rfl, ?_⟩); exact trivial) | (refine ⟨.eq rfl rfl, ?_⟩; refine ⟨.nilown _ _ _ rfl rfl, ?_⟩; (iterate 5 refine ⟨.eq rfl rfl, ?_⟩); exact trivial) | (refine ⟨.eq rfl rfl, ?_⟩; refine ⟨.nilown _ _ _ rfl rfl, ?_⟩; (iterate 4 refine ⟨.eq rfl rfl, ?_⟩); exact trivial))) (by (first | (refine ⟨.newrow rfl, ?_⟩; refine ⟨.box _ rfl ?_, ?_⟩; (iterate 2 refine ⟨.eq rfl rfl, ?_⟩); exact trivial; refine ⟨.box _ rfl ?_, ?_⟩; (iterate 4 refine ⟨.eq rfl rfl, ?_⟩); (iterate 2 exact trivial)) | (refine ⟨.row rfl, ?_⟩; refine ⟨.box _ rfl ?_, ?_⟩; (iterate 2 refine ⟨.eq rfl rfl, ?_⟩); exact trivial; refine ⟨.box _ rfl ?_, ?_⟩; (iterate 4 refine ⟨.eq rfl rfl, ?_⟩); (iterate 2 exact trivial)))) rfl
      rintro s hs
      by_cases hlt : s < st
      · (refine zo ?_; refine zq ?_; refine zm ?_; refine AOps.fieldAddrN 49 1 1 rfl rfl rfl rfl ?_; refine zb ?_; refine zs ?_; refine zm ?_; refine zt ?_; refine zm ?_; refine zt ?_; refine zs ?_; refine zT ?_; refine zd ?_; refine zc ?_; refine AW.skip ?_; refine thenD_n ?_; refine zo ?_; refine AW.block ?_; refine zq ?_; refine nz ?_; refine za ?_; refine zd ?_; refine AW.block ?_)
        (refine nz ?_; apply AW.loopR [10, 9, 6, 4, 3, 2] [1, 0] (fun k : Nat => ([(11, litI k), (7, .own 2 121 3 ((stP 1 st fr vr s k).map encT3))] : List (Nat × AV))) (fun k : Nat => ([(2, some .row)] : List (Nat × Option Ob))) (fun k : Nat => k ≤ fr.length) (fun k : Nat => fr.length - k) (0); (conv => lhs; simp only [Nf.lpR, Nf.all, Nat.reduceBEq, reduceAdd, reduceSub]); (all_goals skip))
        · exact Nat.zero_le _
        · exact weak rfl (by (first | (refine ⟨.eq rfl rfl, ?_⟩; (iterate 7 refine ⟨.eq rfl rfl, ?_⟩); exact trivial) | (refine ⟨.eq rfl rfl, ?_⟩; (iterate 6 refine ⟨.eq rfl rfl, ?_⟩); exact trivial) | (refine ⟨.eq rfl rfl, ?_⟩; refine ⟨.nilown _ _ _ rfl rfl, ?_⟩; (iterate 5 refine ⟨.eq rfl rfl, ?_⟩); exact trivial) | (refine ⟨.eq rfl rfl, ?_⟩; refine ⟨.nilown _ _ _ rfl rfl, ?_⟩; (iterate 4 refine ⟨.eq rfl rfl, ?_⟩); exact trivial))) (by (first | (refine ⟨.newrow rfl, ?_⟩; refine ⟨.box _ rfl ?_, ?_⟩; (iterate 2 refine ⟨.eq rfl rfl, ?_⟩); exact trivial; refine ⟨.box _ rfl ?_, ?_⟩; (iterate 4 refine ⟨.eq rfl rfl, ?_⟩); (iterate 2 exact trivial)) | (refine ⟨.row rfl, ?_⟩; refine ⟨.box _ rfl ?_, ?_⟩; (iterate 2 refine ⟨.eq rfl rfl, ?_⟩); exact trivial; refine ⟨.box _ rfl ?_, ?_⟩; (iterate 4 refine ⟨.eq rfl rfl, ?_⟩); (iterate 2 exact trivial)))) rfl
        rintro k hk
        have hln := hlen s k hs
        by_cases hlt2 : k < fr.length
        · obtain ⟨hf0, hf1, hf2⟩ := hfd k hlt2
          have hst := stP_step 1 st vr s hlt2
          by_cases h0 : s = 0
          · rw [if_pos (.inl h0)] at hst
            (refine zo ?_; refine zq ?_; (iterate 2 refine zm ?_); refine zn ?_; refine zs ?_; refine zd ?_; refine zc ?_; refine AW.skip ?_; refine thenD_n ?_; refine zo ?_; refine AW.block ?_; refine zo ?_; (with_reducible apply AW.regionQ); exact rfl; exact rfl; kernel_rfl; (with_reducible assumption); refine zm ?_; refine AOps.eql rfl rfl rfl rfl rfl ?_; refine zm ?_; (iterate 10 refine AOps.guardFn rfl rfl rfl rfl rfl rfl (by first | omega | decide) ?_); refine zT ?_; refine zd ?_; refine AW.cond_lt rfl rfl ?_; refine AW.regionM [0, 1, 2, 3, 4, 5, 6, 7, 8, 9, 10, 11, 12] [] rfl (by assumption) (by kernel_rfl) (by kernel_rfl) rfl ?_; show AOps .held _ _ _ [_, _, _, _, _, _, _, _, _, _, _, _, _] _ _; refine AOps.move_own rfl rfl rfl ?_; (iterate 3 refine zm ?_); (focus ((with_reducible apply AOps.index_map); (iterate 7 exact rfl); rotate_left; omega)); refine AOps.indexA_r 124 0 1 0 rfl rfl (by kernel_rfl) rfl rfl rfl rfl ?_; refine nz ?_; refine zr ?_; (iterate 2 refine zm ?_); (focus ((with_reducible apply AOps.index_map); (iterate 7 exact rfl); rotate_left; omega)); refine AOps.indexA_r 124 1 1 1 rfl rfl (by kernel_rfl) rfl rfl rfl rfl ?_; refine nz ?_; refine zr ?_; refine AOps.buildN 121 [0, 1, 2] rfl rfl rfl rfl rfl rfl rfl rfl rfl ?_; refine nz ?_; refine AOps.nil ?_; refine onlyN_n ?_; intro k_ hk_; refine AR.step1M (i := 13) rfl (by kernel_rfl) rfl ?_; intro g_ hgro_ hw_; refine AOps.bs1a3 rfl rfl rfl rfl rfl rfl rfl rfl rfl rfl ?_; refine nz ?_; refine AOps.nil ?_; refine onlyN_n ?_; refine AR.step1M (i := 14) rfl (by kernel_rfl) rfl ?_; intro g_ hgro_ hw_; (with_reducible apply AOps.appendS); exact rfl; (first | exact .pv rfl | exact .own rfl | exact .nil rfl); (iterate 9 exact rfl); (first | omega | (simp only [List.length_map, List.length_append, List.length_cons, List.length_nil, List.length_drop, List.length_take, List.length_set, chunk_len]; omega)); refine nz ?_; refine AOps.nil ?_; refine onlyN_n ?_; refine AR.readsM [15] (by kernel_rfl) (by kernel_rfl) (by kernel_rfl) (by kernel_rfl) ?_; intro g_ hgro_; show AOps .held _ _ _ [_] _ _; refine AOps.assign_own rfl rfl rfl ?_; refine AOps.nil ?_; refine onlyN_n ?_; intro k_ hk_; refine nz ?_; refine AR.doneM (by assumption) (by kernel_rfl) ?_; refine inBlockD_n ?_; refine thenD_n ?_; refine AW.region ?_; refine zm ?_; refine zj ?_; refine za ?_; refine zd ?_)
            exact ⟨k + 1, by omega, by omega, weak rfl (by (refine ⟨.intE (by first | with_reducible rfl | (first | rfl | (rw [hst, List.map_append]; rfl))), ?_⟩; refine ⟨.ownE (by first | with_reducible rfl | (first | rfl | (rw [hst, List.map_append]; rfl))) rfl, ?_⟩; refine ⟨.intE (by first | with_reducible rfl | (first | rfl | (rw [hst, List.map_append]; rfl))), ?_⟩; refine ⟨.pvE (by first | with_reducible rfl | (first | rfl | (rw [hst, List.map_append]; rfl))), ?_⟩; (iterate 3 refine ⟨.eq rfl rfl, ?_⟩); refine ⟨.pvE (by first | with_reducible rfl | (first | rfl | (rw [hst, List.map_append]; rfl))), ?_⟩; exact trivial)) (by (refine ⟨.row rfl, ?_⟩; refine ⟨.box _ rfl ?_, ?_⟩; refine ⟨.pvE (by first | with_reducible rfl | (first | rfl | (rw [hst, List.map_append]; rfl))), ?_⟩; refine ⟨.intE (by first | with_reducible rfl | (first | rfl | (rw [hst, List.map_append]; rfl))), ?_⟩; exact trivial; refine ⟨.box _ rfl ?_, ?_⟩; refine ⟨.pvE (by first | with_reducible rfl | (first | rfl | (rw [hst, List.map_append]; rfl))), ?_⟩; refine ⟨.pvE (by first | with_reducible rfl | (first | rfl | (rw [hst, List.map_append]; rfl))), ?_⟩; (iterate 2 refine ⟨.eq rfl rfl, ?_⟩); (iterate 2 exact trivial))) rfl⟩
          · cases hb : fs[fr[k].1.toNat].var with
            | true =>
              rw [if_pos (.inr (hf2.trans hb))] at hst
              (refine zo ?_; refine zq ?_; (iterate 2 refine zm ?_); refine zn ?_; refine zs ?_; refine zd ?_; refine zc ?_; refine AW.skip ?_; refine thenD_n ?_; refine zo ?_; refine AW.block ?_; refine zo ?_; (with_reducible apply AW.regionQ); exact rfl; exact rfl; kernel_rfl; (with_reducible assumption); refine zm ?_; refine AOps.eql rfl rfl rfl rfl rfl ?_; refine zm ?_; refine zy ?_; refine AOps.fieldAddrN 47 1 1 rfl rfl rfl rfl ?_; refine zy ?_; refine zb ?_; refine zy ?_; refine zm ?_; refine zy ?_; refine zm ?_; refine zy ?_; (focus ((with_reducible apply AOps.index_map); (iterate 7 exact rfl); rotate_left; omega)); refine zy ?_; refine AOps.indexA_r 124 0 1 0 rfl rfl (by kernel_rfl) rfl rfl rfl rfl ?_; refine nz ?_; refine zy ?_; refine zr ?_; refine zy ?_; (focus ((with_reducible apply AOps.index_mapI); (iterate 7 exact rfl); omega; rotate_left; (first | omega | exact Nat.zero_lt_one | exact (by simp)))); refine zy ?_; refine AOps.fieldAddr_rN 71 2 2 1 rfl rfl rfl rfl ?_; refine nz ?_; refine zy ?_; refine zr ?_; refine zF ?_; refine zd ?_; refine AW.condYb rfl rfl (by assumption) ?_; refine AW.regionM [0, 1, 2, 3, 4, 5, 6, 7, 8, 9, 10, 11, 12] [] rfl (by assumption) (by kernel_rfl) (by kernel_rfl) rfl ?_; show AOps .held _ _ _ [_, _, _, _, _, _, _, _, _, _, _, _, _] _ _; refine AOps.move_own rfl rfl rfl ?_; (iterate 3 refine zm ?_); (focus ((with_reducible apply AOps.index_map); (iterate 7 exact rfl); rotate_left; omega)); refine AOps.indexA_r 124 0 1 0 rfl rfl (by kernel_rfl) rfl rfl rfl rfl ?_; refine nz ?_; refine zr ?_; (iterate 2 refine zm ?_); (focus ((with_reducible apply AOps.index_map); (iterate 7 exact rfl); rotate_left; omega)); refine AOps.indexA_r 124 1 1 1 rfl rfl (by kernel_rfl) rfl rfl rfl rfl ?_; refine nz ?_; refine zr ?_; refine AOps.buildN 121 [0, 1, 2] rfl rfl rfl rfl rfl rfl rfl rfl rfl ?_; refine nz ?_; refine AOps.nil ?_; refine onlyN_n ?_; intro k_ hk_; refine AR.step1M (i := 13) rfl (by kernel_rfl) rfl ?_; intro g_ hgro_ hw_; refine AOps.bs1a3 rfl rfl rfl rfl rfl rfl rfl rfl rfl rfl ?_; refine nz ?_; refine AOps.nil ?_; refine onlyN_n ?_; refine AR.step1M (i := 14) rfl (by kernel_rfl) rfl ?_; intro g_ hgro_ hw_; (with_reducible apply AOps.appendS); exact rfl; (first | exact .pv rfl | exact .own rfl | exact .nil rfl); (iterate 9 exact rfl); (first | omega | (simp only [List.length_map, List.length_append, List.length_cons, List.length_nil, List.length_drop, List.length_take, List.length_set, chunk_len]; omega)); refine nz ?_; refine AOps.nil ?_; refine onlyN_n ?_; refine AR.readsM [15] (by kernel_rfl) (by kernel_rfl) (by kernel_rfl) (by kernel_rfl) ?_; intro g_ hgro_; show AOps .held _ _ _ [_] _ _; refine AOps.assign_own rfl rfl rfl ?_; refine AOps.nil ?_; refine onlyN_n ?_; intro k_ hk_; refine nz ?_; refine AR.doneM (by assumption) (by kernel_rfl) ?_; refine inBlockD_n ?_; refine thenD_n ?_; refine AW.region ?_; refine zm ?_; refine zj ?_; refine za ?_; refine zd ?_)
              exact ⟨k + 1, by omega, by omega, weak rfl (by (refine ⟨.intE (by first | with_reducible rfl | (first | rfl | (rw [hst, List.map_append]; rfl))), ?_⟩; refine ⟨.ownE (by first | with_reducible rfl | (first | rfl | (rw [hst, List.map_append]; rfl))) rfl, ?_⟩; refine ⟨.intE (by first | with_reducible rfl | (first | rfl | (rw [hst, List.map_append]; rfl))), ?_⟩; refine ⟨.pvE (by first | with_reducible rfl | (first | rfl | (rw [hst, List.map_append]; rfl))), ?_⟩; (iterate 3 refine ⟨.eq rfl rfl, ?_⟩); refine ⟨.pvE (by first | with_reducible rfl | (first | rfl | (rw [hst, List.map_append]; rfl))), ?_⟩; exact trivial)) (by (refine ⟨.row rfl, ?_⟩; refine ⟨.box _ rfl ?_, ?_⟩; refine ⟨.pvE (by first | with_reducible rfl | (first | rfl | (rw [hst, List.map_append]; rfl))), ?_⟩; refine ⟨.intE (by first | with_reducible rfl | (first | rfl | (rw [hst, List.map_append]; rfl))), ?_⟩; exact trivial; refine ⟨.box _ rfl ?_, ?_⟩; refine ⟨.pvE (by first | with_reducible rfl | (first | rfl | (rw [hst, List.map_append]; rfl))), ?_⟩; refine ⟨.pvE (by first | with_reducible rfl | (first | rfl | (rw [hst, List.map_append]; rfl))), ?_⟩; (iterate 2 refine ⟨.eq rfl rfl, ?_⟩); (iterate 2 exact trivial))) rfl⟩
            | false =>
              rw [if_neg (fun h => h.elim h0 fun h => by rw [hf2.trans hb] at h; cases h)] at hst
              (refine zo ?_; refine zq ?_; (iterate 2 refine zm ?_); refine zn ?_; refine zs ?_; refine zd ?_; refine zc ?_; refine AW.skip ?_; refine thenD_n ?_; refine zo ?_; refine AW.block ?_; refine zo ?_; (with_reducible apply AW.regionQ); exact rfl; exact rfl; kernel_rfl; (with_reducible assumption); refine zm ?_; refine AOps.eql rfl rfl rfl rfl rfl ?_; refine zm ?_; refine zy ?_; refine AOps.fieldAddrN 47 1 1 rfl rfl rfl rfl ?_; refine zy ?_; refine zb ?_; refine zy ?_; refine zm ?_; refine zy ?_; refine zm ?_; refine zy ?_; (focus ((with_reducible apply AOps.index_map); (iterate 7 exact rfl); rotate_left; omega)); refine zy ?_; refine AOps.indexA_r 124 0 1 0 rfl rfl (by kernel_rfl) rfl rfl rfl rfl ?_; refine nz ?_; refine zy ?_; refine zr ?_; refine zy ?_; (focus ((with_reducible apply AOps.index_mapI); (iterate 7 exact rfl); omega; rotate_left; (first | omega | exact Nat.zero_lt_one | exact (by simp)))); refine zy ?_; refine AOps.fieldAddr_rN 71 2 2 1 rfl rfl rfl rfl ?_; refine nz ?_; refine zy ?_; refine zr ?_; refine zF ?_; refine zd ?_; refine AW.condNb rfl rfl (by assumption) ?_; refine AW.skip ?_; refine inBlockD_n ?_; refine thenD_n ?_; refine AW.region ?_; refine nz ?_; refine zm ?_; refine zj ?_; refine za ?_; refine zd ?_)
              exact ⟨k + 1, by omega, by omega, weak rfl (by (refine ⟨.intE (by first | with_reducible rfl | (first | rfl | (rw [hst]))), ?_⟩; refine ⟨.ownE (by first | with_reducible rfl | (first | rfl | (rw [hst]))) rfl, ?_⟩; refine ⟨.intE (by first | with_reducible rfl | (first | rfl | (rw [hst]))), ?_⟩; refine ⟨.pvE (by first | with_reducible rfl | (first | rfl | (rw [hst]))), ?_⟩; (iterate 3 refine ⟨.eq rfl rfl, ?_⟩); refine ⟨.pvE (by first | with_reducible rfl | (first | rfl | (rw [hst]))), ?_⟩; exact trivial)) (by (refine ⟨.row rfl, ?_⟩; refine ⟨.box _ rfl ?_, ?_⟩; refine ⟨.pvE (by first | with_reducible rfl | (first | rfl | (rw [hst]))), ?_⟩; refine ⟨.intE (by first | with_reducible rfl | (first | rfl | (rw [hst]))), ?_⟩; exact trivial; refine ⟨.box _ rfl ?_, ?_⟩; refine ⟨.pvE (by first | with_reducible rfl | (first | rfl | (rw [hst]))), ?_⟩; refine ⟨.pvE (by first | with_reducible rfl | (first | rfl | (rw [hst]))), ?_⟩; (iterate 2 refine ⟨.eq rfl rfl, ?_⟩); (iterate 2 exact trivial))) rfl⟩
        · obtain rfl : k = fr.length := by omega
          have hnx := stP_next 1 st fr vr s
          (refine zo ?_; refine zq ?_; (iterate 2 refine zm ?_); refine zn ?_; refine zs ?_; refine zd ?_; refine zk ?_; refine AW.exit ?_; (iterate 2 refine thenD_exit ?_); refine inBlockD_exit ?_; refine inBlockD_n ?_; refine thenD_n ?_; refine AW.region ?_; refine nz ?_; refine zm ?_; refine zj ?_; refine za ?_; refine zd ?_)
          exact ⟨s + 1, by omega, by omega, weak rfl (by (refine ⟨.intE (by first | with_reducible rfl | (first | rfl | (rw [hnx]))), ?_⟩; refine ⟨.ownE (by first | with_reducible rfl | (first | rfl | (rw [hnx]))) rfl, ?_⟩; refine ⟨.pvE (by first | with_reducible rfl | (first | rfl | (rw [hnx]))), ?_⟩; (iterate 3 refine ⟨.eq rfl rfl, ?_⟩); refine ⟨.pvE (by first | with_reducible rfl | (first | rfl | (rw [hnx]))), ?_⟩; exact trivial)) (by (refine ⟨.row rfl, ?_⟩; refine ⟨.box _ rfl ?_, ?_⟩; refine ⟨.pvE (by first | with_reducible rfl | (first | rfl | (rw [hnx]))), ?_⟩; refine ⟨.intE (by first | with_reducible rfl | (first | rfl | (rw [hnx]))), ?_⟩; exact trivial; refine ⟨.box _ rfl ?_, ?_⟩; refine ⟨.pvE (by first | with_reducible rfl | (first | rfl | (rw [hnx]))), ?_⟩; refine ⟨.pvE (by first | with_reducible rfl | (first | rfl | (rw [hnx]))), ?_⟩; (iterate 2 refine ⟨.eq rfl rfl, ?_⟩); (iterate 2 exact trivial))) rfl⟩
      · obtain rfl : st = s := by omega
        (refine zo ?_; refine zq ?_; refine zm ?_; refine AOps.fieldAddrN 49 1 1 rfl rfl rfl rfl ?_; refine zb ?_; refine zs ?_; refine zm ?_; (iterate 2 refine AOps.guardTn rfl rfl rfl rfl rfl rfl (by first | omega | decide) ?_); refine zF ?_; refine zd ?_; refine AW.cond_lf rfl rfl ?_; refine AW.exit ?_; (iterate 2 refine thenD_exit ?_); refine inBlockD_exit ?_; refine thenD_n ?_; refine zq ?_; refine nz ?_; refine AOps.move_own rfl rfl rfl ?_; refine AOps.assign_own rfl rfl rfl ?_; refine zd ?_; refine AW.ret ?_)
        (apply ends_ret; (exact Res.one (.tmp rfl rfl)); (exact Le.own _ _ _ _ rfl))
  · have hsn : selN st = 0 := if_neg h1
    have hss : stP 1 st fr vr 0 0 = [] := by rw [stP_start, hsn]; unfold selV; rfl
    refine Fn.enter (n := 78) Try.func36 rfl rfl rfl rfl rfl (by decide) fun g hro_ hwt_ => ?_; (try refine nz ?_)
    (refine zq ?_; refine AOps.box rfl rfl rfl rfl ?_; refine nz ?_; refine AOps.box rfl rfl rfl rfl ?_; refine nz ?_; refine za ?_; refine zd ?_; refine zq ?_; refine nz ?_; refine za ?_; refine zd ?_; refine zo ?_; refine zq ?_; refine nz ?_; refine AOps.fieldAddrN 49 1 1 rfl rfl rfl rfl ?_; refine zb ?_; refine AOps.gtr rfl rfl rfl rfl rfl ?_; refine zd ?_; refine zk ?_; refine AW.skip ?_; refine thenD_n ?_; refine zq ?_; refine nz ?_; refine zm ?_; refine zP (hfree) ?_; refine za ?_; refine zd ?_; refine zo ?_; refine zq ?_; refine nz ?_; refine za ?_; refine zd ?_; refine AW.block ?_)
    (refine nz ?_; apply AW.loopR [9, 6, 4, 3, 2] [1, 0] (fun s : Nat => ([(10, litI s), (7, .own 2 121 3 ((stP 1 st fr vr s 0).map encT3))] : List (Nat × AV))) (fun s : Nat => ([(2, some .row)] : List (Nat × Option Ob))) (fun s : Nat => s ≤ st) (fun s : Nat => st - s) (0); (conv => lhs; simp only [Nf.lpR, Nf.all, Nat.reduceBEq, reduceAdd, reduceSub]); (all_goals skip))
    · exact Nat.zero_le _
    · rw [hss]
      exact weak rfl (by (first | (refine ⟨.eq rfl rfl, ?_⟩; (iterate 7 refine ⟨.eq rfl rfl, ?_⟩); exact trivial) | (refine ⟨.eq rfl rfl, ?_⟩; (iterate 6 refine ⟨.eq rfl rfl, ?_⟩); exact trivial) | (refine ⟨.eq rfl rfl, ?_⟩; refine ⟨.nilown _ _ _ rfl rfl, ?_⟩; (iterate 5 refine ⟨.eq rfl rfl, ?_⟩); exact trivial) | (refine ⟨.eq rfl rfl, ?_⟩; refine ⟨.nilown _ _ _ rfl rfl, ?_⟩; (iterate 4 refine ⟨.eq rfl rfl, ?_⟩); exact trivial))) (by (first | (refine ⟨.newrow rfl, ?_⟩; refine ⟨.box _ rfl ?_, ?_⟩; (iterate 2 refine ⟨.eq rfl rfl, ?_⟩); exact trivial; refine ⟨.box _ rfl ?_, ?_⟩; (iterate 4 refine ⟨.eq rfl rfl, ?_⟩); (iterate 2 exact trivial)) | (refine ⟨.row rfl, ?_⟩; refine ⟨.box _ rfl ?_, ?_⟩; (iterate 2 refine ⟨.eq rfl rfl, ?_⟩); exact trivial; refine ⟨.box _ rfl ?_, ?_⟩; (iterate 4 refine ⟨.eq rfl rfl, ?_⟩); (iterate 2 exact trivial)))) rfl
    rintro s hs
    by_cases hlt : s < st
    · (refine zo ?_; refine zq ?_; refine zm ?_; refine AOps.fieldAddrN 49 1 1 rfl rfl rfl rfl ?_; refine zb ?_; refine zs ?_; refine zm ?_; refine zt ?_; refine zm ?_; refine zt ?_; refine zs ?_; refine zT ?_; refine zd ?_; refine zc ?_; refine AW.skip ?_; refine thenD_n ?_; refine zo ?_; refine AW.block ?_; refine zq ?_; refine nz ?_; refine za ?_; refine zd ?_; refine AW.block ?_)
      (refine nz ?_; apply AW.loopR [10, 9, 6, 4, 3, 2] [1, 0] (fun k : Nat => ([(11, litI k), (7, .own 2 121 3 ((stP 1 st fr vr s k).map encT3))] : List (Nat × AV))) (fun k : Nat => ([(2, some .row)] : List (Nat × Option Ob))) (fun k : Nat => k ≤ fr.length) (fun k : Nat => fr.length - k) (0); (conv => lhs; simp only [Nf.lpR, Nf.all, Nat.reduceBEq, reduceAdd, reduceSub]); (all_goals skip))
      · exact Nat.zero_le _
      · exact weak rfl (by (first | (refine ⟨.eq rfl rfl, ?_⟩; (iterate 7 refine ⟨.eq rfl rfl, ?_⟩); exact trivial) | (refine ⟨.eq rfl rfl, ?_⟩; (iterate 6 refine ⟨.eq rfl rfl, ?_⟩); exact trivial) | (refine ⟨.eq rfl rfl, ?_⟩; refine ⟨.nilown _ _ _ rfl rfl, ?_⟩; (iterate 5 refine ⟨.eq rfl rfl, ?_⟩); exact trivial) | (refine ⟨.eq rfl rfl, ?_⟩; refine ⟨.nilown _ _ _ rfl rfl, ?_⟩; (iterate 4 refine ⟨.eq rfl rfl, ?_⟩); exact trivial))) (by (first | (refine ⟨.newrow rfl, ?_⟩; refine ⟨.box _ rfl ?_, ?_⟩; (iterate 2 refine ⟨.eq rfl rfl, ?_⟩); exact trivial; refine ⟨.box _ rfl ?_, ?_⟩; (iterate 4 refine ⟨.eq rfl rfl, ?_⟩); (iterate 2 exact trivial)) | (refine ⟨.row rfl, ?_⟩; refine ⟨.box _ rfl ?_, ?_⟩; (iterate 2 refine ⟨.eq rfl rfl, ?_⟩); exact trivial; refine ⟨.box _ rfl ?_, ?_⟩; (iterate 4 refine ⟨.eq rfl rfl, ?_⟩); (iterate 2 exact trivial)))) rfl
      rintro k hk
      have hln := hlen s k hs
      by_cases hlt2 : k < fr.length
      · obtain ⟨hf0, hf1, hf2⟩ := hfd k hlt2
        have hst := stP_step 1 st vr s hlt2
        by_cases h0 : s = 0
        · rw [if_pos (.inl h0)] at hst
          (refine zo ?_; refine zq ?_; (iterate 2 refine zm ?_); refine zn ?_; refine zs ?_; refine zd ?_; refine zc ?_; refine AW.skip ?_; refine thenD_n ?_; refine zo ?_; refine AW.block ?_; refine zo ?_; (with_reducible apply AW.regionQ); exact rfl; exact rfl; kernel_rfl; (with_reducible assumption); refine zm ?_; refine AOps.eql rfl rfl rfl rfl rfl ?_; refine zm ?_; (iterate 10 refine AOps.guardFn rfl rfl rfl rfl rfl rfl (by first | omega | decide) ?_); refine zT ?_; refine zd ?_; refine AW.cond_lt rfl rfl ?_; refine AW.regionM [0, 1, 2, 3, 4, 5, 6, 7, 8, 9, 10, 11, 12] [] rfl (by assumption) (by kernel_rfl) (by kernel_rfl) rfl ?_; show AOps .held _ _ _ [_, _, _, _, _, _, _, _, _, _, _, _, _] _ _; refine AOps.move_own rfl rfl rfl ?_; (iterate 3 refine zm ?_); (focus ((with_reducible apply AOps.index_map); (iterate 7 exact rfl); rotate_left; omega)); refine AOps.indexA_r 124 0 1 0 rfl rfl (by kernel_rfl) rfl rfl rfl rfl ?_; refine nz ?_; refine zr ?_; (iterate 2 refine zm ?_); (focus ((with_reducible apply AOps.index_map); (iterate 7 exact rfl); rotate_left; omega)); refine AOps.indexA_r 124 1 1 1 rfl rfl (by kernel_rfl) rfl rfl rfl rfl ?_; refine nz ?_; refine zr ?_; refine AOps.buildN 121 [0, 1, 2] rfl rfl rfl rfl rfl rfl rfl rfl rfl ?_; refine nz ?_; refine AOps.nil ?_; refine onlyN_n ?_; intro k_ hk_; refine AR.step1M (i := 13) rfl (by kernel_rfl) rfl ?_; intro g_ hgro_ hw_; refine AOps.bs1a3 rfl rfl rfl rfl rfl rfl rfl rfl rfl rfl ?_; refine nz ?_; refine AOps.nil ?_; refine onlyN_n ?_; refine AR.step1M (i := 14) rfl (by kernel_rfl) rfl ?_; intro g_ hgro_ hw_; (with_reducible apply AOps.appendS); exact rfl; (first | exact .pv rfl | exact .own rfl | exact .nil rfl); (iterate 9 exact rfl); (first | omega | (simp only [List.length_map, List.length_append, List.length_cons, List.length_nil, List.length_drop, List.length_take, List.length_set, chunk_len]; omega)); refine nz ?_; refine AOps.nil ?_; refine onlyN_n ?_; refine AR.readsM [15] (by kernel_rfl) (by kernel_rfl) (by kernel_rfl) (by kernel_rfl) ?_; intro g_ hgro_; show AOps .held _ _ _ [_] _ _; refine AOps.assign_own rfl rfl rfl ?_; refine AOps.nil ?_; refine onlyN_n ?_; intro k_ hk_; refine nz ?_; refine AR.doneM (by assumption) (by kernel_rfl) ?_; refine inBlockD_n ?_; refine thenD_n ?_; refine AW.region ?_; refine zm ?_; refine zj ?_; refine za ?_; refine zd ?_)
          exact ⟨k + 1, by omega, by omega, weak rfl (by (refine ⟨.intE (by first | with_reducible rfl | (first | rfl | (rw [hst, List.map_append]; rfl))), ?_⟩; refine ⟨.ownE (by first | with_reducible rfl | (first | rfl | (rw [hst, List.map_append]; rfl))) rfl, ?_⟩; refine ⟨.intE (by first | with_reducible rfl | (first | rfl | (rw [hst, List.map_append]; rfl))), ?_⟩; refine ⟨.pvE (by first | with_reducible rfl | (first | rfl | (rw [hst, List.map_append]; rfl))), ?_⟩; (iterate 3 refine ⟨.eq rfl rfl, ?_⟩); refine ⟨.pvE (by first | with_reducible rfl | (first | rfl | (rw [hst, List.map_append]; rfl))), ?_⟩; exact trivial)) (by (refine ⟨.row rfl, ?_⟩; refine ⟨.box _ rfl ?_, ?_⟩; refine ⟨.pvE (by first | with_reducible rfl | (first | rfl | (rw [hst, List.map_append]; rfl))), ?_⟩; refine ⟨.intE (by first | with_reducible rfl | (first | rfl | (rw [hst, List.map_append]; rfl))), ?_⟩; exact trivial; refine ⟨.box _ rfl ?_, ?_⟩; refine ⟨.pvE (by first | with_reducible rfl | (first | rfl | (rw [hst, List.map_append]; rfl))), ?_⟩; refine ⟨.pvE (by first | with_reducible rfl | (first | rfl | (rw [hst, List.map_append]; rfl))), ?_⟩; (iterate 2 refine ⟨.eq rfl rfl, ?_⟩); (iterate 2 exact trivial))) rfl⟩
        · exfalso
          omega
      · obtain rfl : k = fr.length := by omega
        have hnx := stP_next 1 st fr vr s
        (refine zo ?_; refine zq ?_; (iterate 2 refine zm ?_); refine zn ?_; refine zs ?_; refine zd ?_; refine zk ?_; refine AW.exit ?_; (iterate 2 refine thenD_exit ?_); refine inBlockD_exit ?_; refine inBlockD_n ?_; refine thenD_n ?_; refine AW.region ?_; refine nz ?_; refine zm ?_; refine zj ?_; refine za ?_; refine zd ?_)
        exact ⟨s + 1, by omega, by omega, weak rfl (by (refine ⟨.intE (by first | with_reducible rfl | (first | rfl | (rw [hnx]))), ?_⟩; refine ⟨.ownE (by first | with_reducible rfl | (first | rfl | (rw [hnx]))) rfl, ?_⟩; refine ⟨.pvE (by first | with_reducible rfl | (first | rfl | (rw [hnx]))), ?_⟩; (iterate 3 refine ⟨.eq rfl rfl, ?_⟩); refine ⟨.pvE (by first | with_reducible rfl | (first | rfl | (rw [hnx]))), ?_⟩; exact trivial)) (by (refine ⟨.row rfl, ?_⟩; refine ⟨.box _ rfl ?_, ?_⟩; refine ⟨.pvE (by first | with_reducible rfl | (first | rfl | (rw [hnx]))), ?_⟩; refine ⟨.intE (by first | with_reducible rfl | (first | rfl | (rw [hnx]))), ?_⟩; exact trivial; refine ⟨.box _ rfl ?_, ?_⟩; refine ⟨.pvE (by first | with_reducible rfl | (first | rfl | (rw [hnx]))), ?_⟩; refine ⟨.pvE (by first | with_reducible rfl | (first | rfl | (rw [hnx]))), ?_⟩; (iterate 2 refine ⟨.eq rfl rfl, ?_⟩); (iterate 2 exact trivial))) rfl⟩
    · obtain rfl : st = s := by omega
      (refine zo ?_; refine zq ?_; refine zm ?_; refine AOps.fieldAddrN 49 1 1 rfl rfl rfl rfl ?_; refine zb ?_; refine zs ?_; refine zm ?_; (iterate 2 refine AOps.guardTn rfl rfl rfl rfl rfl rfl (by first | omega | decide) ?_); refine zF ?_; refine zd ?_; refine AW.cond_lf rfl rfl ?_; refine AW.exit ?_; (iterate 2 refine thenD_exit ?_); refine inBlockD_exit ?_; refine thenD_n ?_; refine zq ?_; refine nz ?_; refine AOps.move_own rfl rfl rfl ?_; refine AOps.assign_own rfl rfl rfl ?_; refine zd ?_; refine AW.ret ?_)
      (apply ends_ret; (exact Res.one (.tmp rfl rfl)); (exact Le.own _ _ _ _ rfl))
end Go.Ab
/- Chapter 24: chapter 11's reference: images, relations, permutations that are valid. -/
namespace Go.Ab
open Go Go.Proofs
open Nat (reduceAdd reduceSub)
set_option maxRecDepth 20000
set_option maxHeartbeats 4000000
attribute [local irreducible] AW AOps thenD inBlockD AR iterEnds roundEndsN inlEnds noGotoD imgR canon
theorem image11_fn {srt : Int → Int} (p : List Int) (ar : Nat) (t : Int) (hp : PermA p.length srt p) (hn : 0 < p.length) (hl : p.length ≤ 12) (ha : ar ≤ 3) (ht : 0 ≤ t ∧ t ≤ 1000000) :
    Fn Try.prog 107 [litI p.length, .pv (ints p), litI ar, litI t] (litI (imgR p.length p ar t)) := by
  refine Fn.enter (n := 38) Try.func107 rfl rfl rfl rfl rfl (by decide) fun g hro_ hwt_ => ?_; (try refine nz ?_)
  (refine zq ?_; refine za ?_; refine zd ?_; refine zq ?_; refine nz ?_; refine za ?_; refine zd ?_; refine zq ?_; refine nz ?_; refine za ?_; refine zd ?_; refine zo ?_; refine zq ?_; refine nz ?_; refine za ?_; refine zd ?_; refine AW.block ?_)
  (refine nz ?_; apply AW.loopR [8, 0, 1, 2] [] (fun i : Nat => ([(11, litI i), (3, litI (t / pwI p.length i)), (9, litI (imgR p.length p i t)), (10, litI (pwI p.length i))] : List (Nat × AV))) (fun i : Nat => ([] : List (Nat × Option Ob))) (fun i : Nat => i ≤ ar) (fun i : Nat => ar - i) (0); (conv => lhs; simp only [Nf.lpR, Nf.all, Nat.reduceBEq, reduceAdd, reduceSub]); (all_goals skip))
  · exact Nat.zero_le _
  · exact weak rfl (by (refine ⟨.intE (by first | with_reducible rfl | (first | rfl | (simp [imgR, pwI]; rfl) | simp [imgR, pwI])), ?_⟩; refine ⟨.intE (by first | with_reducible rfl | (first | rfl | (simp [imgR, pwI]; rfl) | simp [imgR, pwI])), ?_⟩; refine ⟨.intE (by first | with_reducible rfl | (first | rfl | (simp [imgR, pwI]; rfl) | simp [imgR, pwI])), ?_⟩; refine ⟨.intE (by first | with_reducible rfl | (first | rfl | (simp [imgR, pwI]; rfl) | simp [imgR, pwI])), ?_⟩; refine ⟨.intE (by first | with_reducible rfl | (first | rfl | (simp [imgR, pwI]; rfl) | simp [imgR, pwI])), ?_⟩; refine ⟨.intE (by first | with_reducible rfl | (first | rfl | (simp [imgR, pwI]; rfl) | simp [imgR, pwI])), ?_⟩; refine ⟨.pvE (by first | with_reducible rfl | (first | rfl | (simp [imgR, pwI]; rfl) | simp [imgR, pwI])), ?_⟩; refine ⟨.intE (by first | with_reducible rfl | (first | rfl | (simp [imgR, pwI]; rfl) | simp [imgR, pwI])), ?_⟩; exact trivial)) (by (exact trivial)) rfl
  rintro i hi
  by_cases hlt : i < ar
  · have hS := pw_b (n := p.length) (i := i) hl (by omega) hn
    have hS2 := pw_b (n := p.length) (i := i + 1) hl (by omega) hn
    have hsn := imgR_snoc p.length p i t
    have hT0 : 0 ≤ t / pwI p.length i := Int.ediv_nonneg ht.1 (by omega)
    have hT1 : t / pwI p.length i ≤ t := Int.ediv_le_self _ ht.1
    have hT2 : t / pwI p.length (i + 1) = t / pwI p.length i / (p.length : Int) := by
      rw [Int.ediv_ediv_of_nonneg (by omega), Int.mul_comm, ← pow_succ_cast]
    have hSn : pwI p.length (i + 1) = pwI p.length i * (p.length : Int) := by
      rw [Int.mul_comm]; exact pow_succ_cast _ _
    have hb := img_rng hp hn i t
    have hO : 0 ≤ imgR p.length p i t ∧ imgR p.length p i t < pwI p.length i := hb
    rw [hSn] at hS2
    clear hb
    generalize imgR p.length p i t = O at hO hsn ⊢
    generalize t / pwI p.length i = T at hT0 hT1 hT2 hsn ⊢
    generalize pwI p.length i = S at hS hSn hS2 hO hsn ⊢
    have hm := mod_lt hn T
    have hm0 : 0 ≤ T % (p.length : Int) := Int.emod_nonneg _ (by omega)
    have hm1 : T % (p.length : Int) < (p.length : Int) := Int.emod_lt_of_pos _ (by omega)
    have hd0 : 0 ≤ T / (p.length : Int) := Int.ediv_nonneg hT0 (by omega)
    rw [getD_of hm] at hsn
    have hx := hp.rng _ (List.getElem_mem hm)
    have hM : 0 ≤ p[(T % (p.length : Int)).toNat] * S ∧ p[(T % (p.length : Int)).toNat] * S ≤ 12 * 1728 := ⟨Int.mul_nonneg hx.1 (by omega), Int.mul_le_mul (by omega) hS.2 (by omega) (by omega)⟩
    (refine zo ?_; refine zq ?_; (iterate 2 refine zm ?_); refine zs ?_; refine zm ?_; refine zt ?_; refine zm ?_; refine zt ?_; refine zs ?_; refine zT ?_; refine zd ?_; refine zc ?_; refine AW.skip ?_; refine thenD_n ?_; refine zo ?_; refine AW.block ?_; refine zq ?_; refine nz ?_; (iterate 4 refine zm ?_); refine AOps.remE rfl rfl rfl rfl rfl (by omega) ?_; (focus ((with_reducible apply AOps.index_mapI); (iterate 7 exact rfl); omega; rotate_left; (first | omega | exact Nat.zero_lt_one | exact (by simp)))); refine zr ?_; refine zm ?_; refine AOps.mul rfl rfl rfl rfl rfl (by omega) ?_; refine zj ?_; refine za ?_; refine zd ?_; refine zq ?_; refine nz ?_; (iterate 2 refine zm ?_); refine AOps.quoE rfl rfl rfl rfl rfl (by omega) ?_; refine za ?_; refine zd ?_; refine AW.region ?_; refine nz ?_; (iterate 2 refine zm ?_); refine AOps.mul rfl rfl rfl rfl rfl (by omega) ?_; refine za ?_; refine AOps.nil ?_; refine inBlockD_n ?_; refine thenD_n ?_; refine AW.region ?_; refine nz ?_; refine zm ?_; refine zj ?_; refine za ?_; refine zd ?_)
    exact ⟨i + 1, by omega, by omega, weak rfl (by (refine ⟨.intE (by first | with_reducible rfl | (first | rfl | (rw [hT2]) | (rw [hsn]) | (rw [hSn]))), ?_⟩; refine ⟨.intE (by first | with_reducible rfl | (first | rfl | (rw [hT2]) | (rw [hsn]) | (rw [hSn]))), ?_⟩; refine ⟨.intE (by first | with_reducible rfl | (first | rfl | (rw [hT2]) | (rw [hsn]) | (rw [hSn]))), ?_⟩; refine ⟨.intE (by first | with_reducible rfl | (first | rfl | (rw [hT2]) | (rw [hsn]) | (rw [hSn]))), ?_⟩; refine ⟨.intE (by first | with_reducible rfl | (first | rfl | (rw [hT2]) | (rw [hsn]) | (rw [hSn]))), ?_⟩; refine ⟨.intE (by first | with_reducible rfl | (first | rfl | (rw [hT2]) | (rw [hsn]) | (rw [hSn]))), ?_⟩; refine ⟨.pvE (by first | with_reducible rfl | (first | rfl | (rw [hT2]) | (rw [hsn]) | (rw [hSn]))), ?_⟩; refine ⟨.intE (by first | with_reducible rfl | (first | rfl | (rw [hT2]) | (rw [hsn]) | (rw [hSn]))), ?_⟩; exact trivial)) (by (exact trivial)) rfl⟩
  · obtain rfl : i = ar := by omega
    (refine zo ?_; refine zq ?_; (iterate 2 refine zm ?_); refine zs ?_; refine zm ?_; (iterate 2 refine AOps.guardTn rfl rfl rfl rfl rfl rfl (by first | omega | decide) ?_); refine zF ?_; refine zd ?_; refine AW.cond_lf rfl rfl ?_; refine AW.exit ?_; (iterate 2 refine thenD_exit ?_); refine inBlockD_exit ?_; refine thenD_n ?_; refine zq ?_; refine nz ?_; refine zm ?_; refine za ?_; refine zd ?_; refine AW.ret ?_)
    (apply ends_ret; (exact Res.one (.tmp rfl rfl)); (refine Le.litI ?_; (rfl)))
theorem rel11_fn {srt : Int → Int} (at' : List Int) (st : Int) (p : List Int) (ar : Nat) (ts : List Int) (hp : PermA p.length srt p) (hn : 0 < p.length) (hl : p.length ≤ 12) (ha : ar ≤ 3) (ht : ∀ t ∈ ts, 0 ≤ t ∧ t ≤ 1000000) (hts : ts.length ≤ 100000) :
    Fn Try.prog 88 [scp at' st, .pv (ints p), relA ((ar : Int), ts)] (relA ((ar : Int), canon (ts.map (imgR p.length p ar)))) := by
  have hr := fun t (h : t ∈ ts) => image11_fn p ar t hp hn hl ha (ht t h)
  have hof := rOf_fn (ar : Int) (ts.map (imgR p.length p ar)) (by rw [List.length_map]; omega)
  refine Fn.enter (n := 35) Try.func88 rfl rfl rfl rfl rfl (by decide) fun g hro_ hwt_ => ?_; (try refine nz ?_)
  (refine zq ?_; refine AOps.box rfl rfl rfl rfl ?_; refine nz ?_; refine AOps.box rfl rfl rfl rfl ?_; refine nz ?_; refine AOps.allocN' rfl rfl rfl rfl ?_; refine nz ?_; refine zd ?_; refine zq ?_; refine AOps.bs0 rfl rfl rfl rfl rfl ?_; refine nz ?_; refine AOps.assign_own rfl rfl rfl ?_; refine zd ?_; refine zo ?_; refine zq ?_; refine nz ?_; refine za ?_; refine zd ?_; refine AW.block ?_)
  (refine nz ?_; apply AW.loopR [6, 5, 1] [2, 1] (fun k : Nat => ([(8, litI k), (7, .own 3 3 1 (((ts.take k).map (imgR p.length p ar)).map encI))] : List (Nat × AV))) (fun k : Nat => ([(3, some .row)] : List (Nat × Option Ob))) (fun k : Nat => k ≤ ts.length) (fun k : Nat => ts.length - k) (0); (conv => lhs; simp only [Nf.lpR, Nf.all, Nat.reduceBEq, reduceAdd, reduceSub]); (all_goals skip))
  · exact Nat.zero_le _
  · exact weak rfl (by (refine ⟨.eq rfl rfl, ?_⟩; (iterate 4 refine ⟨.eq rfl rfl, ?_⟩); exact trivial)) (by (refine ⟨.row rfl, ?_⟩; refine ⟨.box _ rfl ?_, ?_⟩; (iterate 2 refine ⟨.eq rfl rfl, ?_⟩); exact trivial; refine ⟨.box _ rfl ?_, ?_⟩; (iterate 2 refine ⟨.eq rfl rfl, ?_⟩); (iterate 2 exact trivial))) rfl
  rintro k hk
  have hml : ((ts.take k).map (imgR p.length p ar)).length ≤ ts.length := by rw [List.length_map]; exact Nat.le_trans (List.length_take_le k ts) hk
  by_cases hlt : k < ts.length
  · have h1 := hr ts[k] (List.getElem_mem hlt)
    have hs := take_succ_get hlt
    (refine zo ?_; refine zq ?_; refine zm ?_; refine AOps.fieldAddrN 99 1 1 rfl rfl rfl rfl ?_; refine zb ?_; refine zn ?_; refine zs ?_; refine zd ?_; refine zc ?_; refine AW.skip ?_; refine thenD_n ?_; refine zo ?_; refine AW.block ?_; refine AW.regionM [0, 1, 2, 3, 4, 5, 6, 7, 8, 9, 10] [] rfl (by assumption) (by kernel_rfl) (by kernel_rfl) rfl ?_; show AOps .held _ _ _ [_, _, _, _, _, _, _, _, _, _, _] _ _; refine AOps.move_own rfl rfl rfl ?_; refine zm ?_; refine zn ?_; refine zm ?_; refine AOps.fieldAddrN 99 0 0 rfl rfl rfl rfl ?_; refine zb ?_; refine AOps.fieldAddrN 99 1 1 rfl rfl rfl rfl ?_; refine zb ?_; refine zm ?_; (focus ((with_reducible apply AOps.index_map); (iterate 7 exact rfl); rotate_left; omega)); refine zr ?_; refine AOps.nil ?_; refine onlyN_n ?_; intro k_ hk_; refine nz ?_; refine AR.step1M (i := 11) rfl (by kernel_rfl) rfl ?_; intro g_ hgro_ hw_; refine zA (h1) ?_; refine AOps.nil ?_; refine onlyN_n ?_; refine AR.step1M (i := 12) rfl (by kernel_rfl) rfl ?_; intro g_ hgro_ hw_; refine AOps.bs1 rfl rfl rfl rfl rfl rfl rfl rfl ?_; refine nz ?_; refine AOps.nil ?_; refine onlyN_n ?_; refine AR.step1M (i := 13) rfl (by kernel_rfl) rfl ?_; intro g_ hgro_ hw_; (with_reducible apply AOps.appendS); exact rfl; (first | exact .pv rfl | exact .own rfl | exact .nil rfl); (iterate 9 exact rfl); (first | omega | (simp only [List.length_map, List.length_append, List.length_cons, List.length_nil, List.length_drop, List.length_take, List.length_set, chunk_len]; omega)); refine nz ?_; refine AOps.nil ?_; refine onlyN_n ?_; refine AR.readsM [14] (by kernel_rfl) (by kernel_rfl) (by kernel_rfl) (by kernel_rfl) ?_; intro g_ hgro_; show AOps .held _ _ _ [_] _ _; refine AOps.assign_own rfl rfl rfl ?_; refine AOps.nil ?_; refine onlyN_n ?_; intro k_ hk_; refine nz ?_; refine AR.doneM (by assumption) (by kernel_rfl) ?_; refine inBlockD_n ?_; refine thenD_n ?_; refine AW.region ?_; refine zm ?_; refine zj ?_; refine za ?_; refine zd ?_)
    exact ⟨k + 1, by omega, by omega, weak rfl (by (refine ⟨.intE (by first | with_reducible rfl | (first | rfl | (rw [hs, List.map_append, List.map_append]; rfl))), ?_⟩; refine ⟨.ownE (by first | with_reducible rfl | (first | rfl | (rw [hs, List.map_append, List.map_append]; rfl))) rfl, ?_⟩; (iterate 2 refine ⟨.eq rfl rfl, ?_⟩); refine ⟨.pvE (by first | with_reducible rfl | (first | rfl | (rw [hs, List.map_append, List.map_append]; rfl))), ?_⟩; exact trivial)) (by (refine ⟨.row rfl, ?_⟩; refine ⟨.box _ rfl ?_, ?_⟩; refine ⟨.intE (by first | with_reducible rfl | (first | rfl | (rw [hs, List.map_append, List.map_append]; rfl))), ?_⟩; refine ⟨.eq rfl rfl, ?_⟩; exact trivial; refine ⟨.box _ rfl ?_, ?_⟩; refine ⟨.intE (by first | with_reducible rfl | (first | rfl | (rw [hs, List.map_append, List.map_append]; rfl))), ?_⟩; refine ⟨.pvE (by first | with_reducible rfl | (first | rfl | (rw [hs, List.map_append, List.map_append]; rfl))), ?_⟩; (iterate 2 exact trivial))) rfl⟩
  · rw [take_all (l := ts) (by omega)]
    generalize ts.map (imgR p.length p ar) = yl at hof
    (refine zo ?_; refine zq ?_; refine zm ?_; refine AOps.fieldAddrN 99 1 1 rfl rfl rfl rfl ?_; refine zb ?_; refine zn ?_; refine zs ?_; refine zd ?_; refine zk ?_; refine AW.exit ?_; (iterate 2 refine thenD_exit ?_); refine inBlockD_exit ?_; refine thenD_n ?_; refine zq ?_; refine nz ?_; refine AOps.fieldAddrN 99 0 0 rfl rfl rfl rfl ?_; refine zb ?_; refine AOps.move_own rfl rfl rfl ?_; refine AOps.frzC rfl rfl ?_; refine nz ?_; refine zP (hof) ?_; refine zB ?_; refine nz ?_; refine zd ?_; refine AW.ret ?_)
    (apply ends_ret; (exact Res.one (.cell rfl rfl rfl rfl)); (refine Le.aggL ?_; refine LeL.cons ?_ ?_; (with_reducible exact Le.pv _); refine LeL.cons ?_ ?_; (with_reducible exact Le.pv _); exact LeL.nil))
theorem usable_fn (at' : List Int) (st : Int) (h : SmA at') (h4 : at'.length ≤ 4) (h5 : ∀ x ∈ at', x ≤ 5) (hs : at'.sum ≤ 12) : Fn Try.prog 106 [scp at' st] (litB true) := by
  have ha := atoms11_fn at' st h
  refine Fn.enter (n := 32) Try.func106 rfl rfl rfl rfl rfl (by decide) fun g hro_ hwt_ => ?_; (try refine nz ?_)
  (refine zq ?_; refine AOps.box rfl rfl rfl rfl ?_; refine nz ?_; refine za ?_; refine zd ?_; refine zo ?_; refine zq ?_; refine nz ?_; refine AOps.fieldAddrN 49 0 0 rfl rfl rfl rfl ?_; refine zb ?_; refine zn ?_; refine AOps.gtr rfl rfl rfl rfl rfl ?_; refine zd ?_; refine zk ?_; refine AW.skip ?_; refine thenD_n ?_; refine zo ?_; refine zq ?_; refine nz ?_; refine za ?_; refine zd ?_; refine AW.block ?_)
  (refine nz ?_; apply AW.loopR [6, 1] [0] (fun k : Nat => ([(3, litI k)] : List (Nat × AV))) (fun k : Nat => ([] : List (Nat × Option Ob))) (fun k : Nat => k ≤ at'.length) (fun k : Nat => at'.length - k) (0); (conv => lhs; simp only [Nf.lpR, Nf.all, Nat.reduceBEq, reduceAdd, reduceSub]); (all_goals skip))
  · exact Nat.zero_le _
  · exact weak rfl (by (refine ⟨.eq rfl rfl, ?_⟩; (iterate 2 refine ⟨.eq rfl rfl, ?_⟩); exact trivial)) (by (refine ⟨.box _ rfl ?_, ?_⟩; (iterate 2 refine ⟨.eq rfl rfl, ?_⟩); (iterate 2 exact trivial))) rfl
  rintro k hk
  by_cases hlt : k < at'.length
  · have h1 := h.2 _ (List.getElem_mem hlt)
    have h2 := h5 _ (List.getElem_mem hlt)
    (refine zo ?_; refine zq ?_; refine zm ?_; refine AOps.fieldAddrN 49 0 0 rfl rfl rfl rfl ?_; refine zb ?_; refine zn ?_; refine zs ?_; refine zd ?_; refine zc ?_; refine AW.skip ?_; refine thenD_n ?_; refine zo ?_; refine AW.block ?_; refine zq ?_; refine nz ?_; refine AOps.fieldAddrN 49 0 0 rfl rfl rfl rfl ?_; refine zb ?_; refine zm ?_; (focus ((with_reducible apply AOps.index_map); (iterate 7 exact rfl); rotate_left; omega)); refine zr ?_; refine zs ?_; refine zm ?_; refine zy ?_; refine AOps.fieldAddrN 49 0 0 rfl rfl rfl rfl ?_; refine zy ?_; refine zb ?_; refine zy ?_; refine zm ?_; refine zy ?_; (focus ((with_reducible apply AOps.index_map); (iterate 7 exact rfl); rotate_left; omega)); refine zy ?_; refine zr ?_; refine zy ?_; refine AOps.gtr rfl rfl rfl rfl rfl ?_; refine zF ?_; refine zd ?_; refine zk ?_; refine AW.skip ?_; refine inBlockD_n ?_; refine thenD_n ?_; refine AW.region ?_; refine nz ?_; refine zm ?_; refine zj ?_; refine za ?_; refine zd ?_)
    exact ⟨k + 1, by omega, by omega, weak rfl (by (refine ⟨.eq rfl rfl, ?_⟩; (iterate 2 refine ⟨.eq rfl rfl, ?_⟩); exact trivial)) (by (refine ⟨.box _ rfl ?_, ?_⟩; (iterate 2 refine ⟨.eq rfl rfl, ?_⟩); (iterate 2 exact trivial))) rfl⟩
  · have e := decide_eq_true hs
    (refine zo ?_; refine zq ?_; refine zm ?_; refine AOps.fieldAddrN 49 0 0 rfl rfl rfl rfl ?_; refine zb ?_; refine zn ?_; refine zs ?_; refine zd ?_; refine zk ?_; refine AW.exit ?_; (iterate 2 refine thenD_exit ?_); refine inBlockD_exit ?_; refine thenD_n ?_; refine zq ?_; refine nz ?_; refine zL ?_; refine nz ?_; refine zA (ha) ?_; refine AOps.leq rfl rfl rfl rfl rfl ?_; refine za ?_; refine zd ?_; refine AW.ret ?_)
    (apply ends_ret; (exact Res.one (.tmp rfl rfl)); (refine Le.litB ?_; (first | rfl | (rw [e]))))
theorem has11_fn (l : List Int) (x : Int) (hl : l.length ≤ 1000000) : Fn Try.prog 84 [.pv (ints l), litI x] (litB (decide (x ∈ l))) := by
  refine Fn.enter (n := 18) Try.func84 rfl rfl rfl rfl rfl (by decide) fun g hro_ hwt_ => ?_; (try refine nz ?_)
  (refine zq ?_; refine za ?_; refine zd ?_; refine zo ?_; refine zq ?_; refine nz ?_; refine za ?_; refine zd ?_; refine AW.block ?_)
  (refine nz ?_; apply AW.loopR [0, 1] [] (fun k : Nat => ([(5, litI k)] : List (Nat × AV))) (fun k : Nat => ([] : List (Nat × Option Ob))) (fun k : Nat => k ≤ l.length ∧ x ∉ l.take k) (fun k : Nat => l.length - k) (0); (conv => lhs; simp only [Nf.lpR, Nf.all, Nat.reduceBEq, reduceAdd, reduceSub]); (all_goals skip))
  · exact ⟨Nat.zero_le _, by simp⟩
  · exact weak rfl (by (refine ⟨.eq rfl rfl, ?_⟩; (iterate 2 refine ⟨.eq rfl rfl, ?_⟩); exact trivial)) (by (exact trivial)) rfl
  rintro k ⟨hk, hno⟩
  by_cases hlt : k < l.length
  · by_cases he : l[k] = x
    · have hm : x ∈ l := he ▸ List.getElem_mem hlt
      rw [decide_eq_true hm]
      (refine zo ?_; refine zq ?_; (iterate 2 refine zm ?_); refine zn ?_; refine zs ?_; refine zd ?_; refine zc ?_; refine AW.skip ?_; refine thenD_n ?_; refine zo ?_; refine AW.block ?_; refine zq ?_; refine nz ?_; (iterate 2 refine zm ?_); (focus ((with_reducible apply AOps.index_map); (iterate 7 exact rfl); rotate_left; omega)); refine zr ?_; refine zm ?_; refine AOps.eql rfl rfl rfl rfl rfl ?_; refine zd ?_; refine zc ?_; refine zq ?_; refine nz ?_; refine za ?_; refine zd ?_; refine AW.ret ?_; refine inBlockD_ret ?_; (iterate 2 refine thenD_ret ?_); refine inBlockD_ret ?_; refine thenD_ret ?_)
      (apply ends_ret; (exact Res.one (.tmp rfl rfl)); (refine Le.litB ?_; (rfl)))
    · have hs : x ∉ l.take (k + 1) := by
        rw [take_succ_get hlt, List.mem_append]
        rintro (h | h)
        · exact hno h
        · exact he (List.mem_singleton.1 h).symm
      (refine zo ?_; refine zq ?_; (iterate 2 refine zm ?_); refine zn ?_; refine zs ?_; refine zd ?_; refine zc ?_; refine AW.skip ?_; refine thenD_n ?_; refine zo ?_; refine AW.block ?_; refine zq ?_; refine nz ?_; (iterate 2 refine zm ?_); (focus ((with_reducible apply AOps.index_map); (iterate 7 exact rfl); rotate_left; omega)); refine zr ?_; refine zm ?_; refine AOps.eql rfl rfl rfl rfl rfl ?_; refine zd ?_; refine zk ?_; refine AW.skip ?_; refine inBlockD_n ?_; refine thenD_n ?_; refine AW.region ?_; refine nz ?_; refine zm ?_; refine zj ?_; refine za ?_; refine zd ?_)
      exact ⟨k + 1, ⟨by omega, hs⟩, by omega, weak rfl (by (refine ⟨.eq rfl rfl, ?_⟩; (iterate 2 refine ⟨.eq rfl rfl, ?_⟩); exact trivial)) (by (exact trivial)) rfl⟩
  · rw [take_all (l := l) (by omega)] at hno
    rw [decide_eq_false hno]
    (refine zo ?_; refine zq ?_; (iterate 2 refine zm ?_); refine zn ?_; refine zs ?_; refine zd ?_; refine zk ?_; refine AW.exit ?_; (iterate 2 refine thenD_exit ?_); refine inBlockD_exit ?_; refine thenD_n ?_; refine zq ?_; refine nz ?_; refine za ?_; refine zd ?_; refine AW.ret ?_)
    (apply ends_ret; (exact Res.one (.tmp rfl rfl)); (refine Le.litB ?_; (rfl)))
theorem valid11_fn (at' : List Int) (st : Int) (p : List Int) (h : SmA at') (h4 : at'.length ≤ 4) (h5 : ∀ x ∈ at', x ≤ 5) (hs : at'.sum ≤ 12) (hp : PermA p.length (fun x => sortF at' x 0) p) (hl : (p.length : Int) = at'.sum) : Fn Try.prog 86 [scp at' st, .pv (ints p)] (litB true) := by
  have hu := usable_fn at' st h h4 h5 hs
  have ha := atoms11_fn at' st h
  rw [← hl] at ha
  have hso := fun x hx => sort11_fn at' st x h hx
  refine Fn.enter (n := 63) Try.func86 rfl rfl rfl rfl rfl (by decide) fun g hro_ hwt_ => ?_; (try refine nz ?_)
  (refine zq ?_; refine AOps.box rfl rfl rfl rfl ?_; refine nz ?_; refine za ?_; refine zd ?_; refine zo ?_; refine zq ?_; refine nz ?_; refine zL ?_; refine nz ?_; refine zA (hu) ?_; refine AOps.not rfl rfl rfl ?_; refine zm ?_; refine zl ?_; refine zm ?_; refine zl ?_; refine zn ?_; refine zl ?_; refine zL ?_; refine nz ?_; refine zl ?_; refine zA (ha) ?_; refine zl ?_; refine AOps.neq rfl rfl rfl rfl rfl ?_; refine AOps.pick_lf rfl rfl rfl rfl rfl rfl ?_; refine zd ?_; refine zk ?_; refine AW.skip ?_; refine thenD_n ?_; refine zo ?_; refine zq ?_; refine nz ?_; refine za ?_; refine zd ?_; refine AW.block ?_)
  (refine nz ?_; apply AW.loopR [14, 2, 1] [0] (fun i : Nat => ([(5, litI i)] : List (Nat × AV))) (fun i : Nat => ([] : List (Nat × Option Ob))) (fun i : Nat => i ≤ p.length) (fun i : Nat => p.length - i) (0); (conv => lhs; simp only [Nf.lpR, Nf.all, Nat.reduceBEq, reduceAdd, reduceSub]); (all_goals skip))
  · exact Nat.zero_le _
  · exact weak rfl (by (first | (refine ⟨.eq rfl rfl, ?_⟩; (iterate 4 refine ⟨.eq rfl rfl, ?_⟩); exact trivial) | (refine ⟨.eq rfl rfl, ?_⟩; (iterate 3 refine ⟨.eq rfl rfl, ?_⟩); exact trivial))) (by (refine ⟨.box _ rfl ?_, ?_⟩; (iterate 2 refine ⟨.eq rfl rfl, ?_⟩); (iterate 2 exact trivial))) rfl
  rintro i hi
  by_cases hlt : i < p.length
  · have hx := hp.rng _ (List.getElem_mem hlt)
    have e := hp.srt i hlt
    have s1 := hso p[i] (by omega)
    have s2 := hso (i : Int) (by omega)
    rw [e] at s1
    generalize sortF at' (i : Int) 0 = sv at s1 s2
    clear e
    (refine zo ?_; refine zq ?_; (iterate 2 refine zm ?_); refine zn ?_; refine zs ?_; refine zd ?_; refine zc ?_; refine AW.skip ?_; refine thenD_n ?_; refine zo ?_; refine AW.block ?_; (iterate 2 refine zo ?_); (with_reducible apply AW.regionQ); exact rfl; exact rfl; kernel_rfl; (with_reducible assumption); (iterate 2 refine zm ?_); (focus ((with_reducible apply AOps.index_map); (iterate 7 exact rfl); rotate_left; omega)); refine zr ?_; refine zs ?_; refine zm ?_; refine zy ?_; refine zm ?_; refine zy ?_; refine zm ?_; refine zy ?_; (focus ((with_reducible apply AOps.index_map); (iterate 7 exact rfl); rotate_left; omega)); refine zy ?_; refine zr ?_; refine zy ?_; refine zm ?_; refine zy ?_; refine zn ?_; refine zy ?_; refine AOps.geq rfl rfl rfl rfl rfl ?_; refine zF ?_; refine zm ?_; refine zy ?_; refine zL ?_; refine nz ?_; refine zy ?_; refine zm ?_; refine zy ?_; refine zm ?_; refine zy ?_; (focus ((with_reducible apply AOps.index_map); (iterate 7 exact rfl); rotate_left; omega)); refine zy ?_; refine zr ?_; refine zy ?_; refine zA (s1) ?_; refine zy ?_; refine zL ?_; refine nz ?_; refine zy ?_; refine zm ?_; refine zy ?_; refine zA (s2) ?_; refine zy ?_; refine AOps.neq rfl rfl rfl rfl rfl ?_; refine zF ?_; refine zd ?_; refine zk ?_; refine AW.skip ?_; refine thenD_n ?_; refine zq ?_; refine nz ?_; refine za ?_; refine zd ?_; refine AW.block ?_)
    (refine nz ?_; apply AW.loopR [5, 14, 2, 1] [0] (fun k : Nat => ([(6, litI k)] : List (Nat × AV))) (fun k : Nat => ([] : List (Nat × Option Ob))) (fun k : Nat => k ≤ i) (fun k : Nat => i - k) (0); (conv => lhs; simp only [Nf.lpR, Nf.all, Nat.reduceBEq, reduceAdd, reduceSub]); (all_goals skip))
    · exact Nat.zero_le _
    · exact weak rfl (by (first | (refine ⟨.eq rfl rfl, ?_⟩; (iterate 4 refine ⟨.eq rfl rfl, ?_⟩); exact trivial) | (refine ⟨.eq rfl rfl, ?_⟩; (iterate 3 refine ⟨.eq rfl rfl, ?_⟩); exact trivial))) (by (refine ⟨.box _ rfl ?_, ?_⟩; (iterate 2 refine ⟨.eq rfl rfl, ?_⟩); (iterate 2 exact trivial))) rfl
    rintro k hk
    by_cases hlt2 : k < i
    · have hne : ¬ p[k] = p[i] := fun e => by
        have := (List.getElem_inj hp.nodup).1 e
        omega
      (refine zo ?_; refine zq ?_; (iterate 2 refine zm ?_); refine zs ?_; refine zd ?_; refine zc ?_; refine AW.skip ?_; refine thenD_n ?_; refine zo ?_; refine AW.block ?_; refine zo ?_; (with_reducible apply AW.regionQ); exact rfl; exact rfl; kernel_rfl; (with_reducible assumption); (iterate 2 refine zm ?_); (focus ((with_reducible apply AOps.index_map); (iterate 7 exact rfl); rotate_left; omega)); refine zr ?_; (iterate 2 refine zm ?_); (focus ((with_reducible apply AOps.index_map); (iterate 7 exact rfl); rotate_left; omega)); refine zr ?_; refine AOps.eql rfl rfl rfl rfl rfl ?_; refine zd ?_; refine zk ?_; refine AW.skip ?_; refine inBlockD_n ?_; refine thenD_n ?_; refine AW.region ?_; refine nz ?_; refine zm ?_; refine zj ?_; refine za ?_; refine zd ?_)
      exact ⟨k + 1, by omega, by omega, weak rfl (by (first | (refine ⟨.eq rfl rfl, ?_⟩; (iterate 4 refine ⟨.eq rfl rfl, ?_⟩); exact trivial) | (refine ⟨.eq rfl rfl, ?_⟩; (iterate 3 refine ⟨.eq rfl rfl, ?_⟩); exact trivial))) (by (refine ⟨.box _ rfl ?_, ?_⟩; (iterate 2 refine ⟨.eq rfl rfl, ?_⟩); (iterate 2 exact trivial))) rfl⟩
    · (refine zo ?_; refine zq ?_; (iterate 2 refine zm ?_); refine zs ?_; refine zd ?_; refine zk ?_; refine AW.exit ?_; (iterate 2 refine thenD_exit ?_); refine inBlockD_exit ?_; refine inBlockD_n ?_; refine thenD_n ?_; refine AW.region ?_; refine nz ?_; refine zm ?_; refine zj ?_; refine za ?_; refine zd ?_)
      exact ⟨i + 1, by omega, by omega, weak rfl (by (first | (refine ⟨.eq rfl rfl, ?_⟩; (iterate 4 refine ⟨.eq rfl rfl, ?_⟩); exact trivial) | (refine ⟨.eq rfl rfl, ?_⟩; (iterate 3 refine ⟨.eq rfl rfl, ?_⟩); exact trivial))) (by (refine ⟨.box _ rfl ?_, ?_⟩; (iterate 2 refine ⟨.eq rfl rfl, ?_⟩); (iterate 2 exact trivial))) rfl⟩
  · (refine zo ?_; refine zq ?_; (iterate 2 refine zm ?_); refine zn ?_; refine zs ?_; refine zd ?_; refine zk ?_; refine AW.exit ?_; (iterate 2 refine thenD_exit ?_); refine inBlockD_exit ?_; refine thenD_n ?_; refine zq ?_; refine nz ?_; refine za ?_; refine zd ?_; refine AW.ret ?_)
    (apply ends_ret; (exact Res.one (.tmp rfl rfl)); (refine Le.litB ?_; (rfl)))
end Go.Ab
/- Chapter 24: all permutations of atoms; the symmetries, walked. -/
namespace Go.Ab
open Go Go.Proofs
open Nat (reduceAdd reduceSub)
set_option maxRecDepth 20000
set_option maxHeartbeats 4000000
def okX (srt : Int → Int) (i : Nat) (p : List Int) (x : Nat) : Bool := decide (srt x = srt i) && !decide ((x : Int) ∈ p)
def extM (srt : Int → Int) (i : Nat) (p : List Int) (x : Nat) : List (List Int) := ((List.range x).filter (okX srt i p)).map fun x : Nat => p ++ [(x : Int)]
theorem extM_snoc (srt : Int → Int) (i : Nat) (p : List Int) (x : Nat) : extM srt i p (x + 1) = extM srt i p x ++ if okX srt i p x = true then [p ++ [(x : Int)]] else [] := by
  unfold extM
  rw [List.range_succ, List.filter_append, List.map_append]
  congr 1
  by_cases h : okX srt i p x = true
  · rw [if_pos h, List.filter_cons, if_pos h]; rfl
  · rw [if_neg h, List.filter_cons, if_neg h]; rfl
theorem extM_zero (srt : Int → Int) (i : Nat) (p : List Int) : extM srt i p 0 = [] := rfl
theorem extM_len (srt : Int → Int) (i : Nat) (p : List Int) (x : Nat) : (extM srt i p x).length ≤ x := by
  unfold extM
  rw [List.length_map]
  exact Nat.le_trans (List.length_filter_le _ _) (by rw [List.length_range]; exact Nat.le_refl _)
def nextM (n : Nat) (srt : Int → Int) (i : Nat) (l : List (List Int)) (k : Nat) : List (List Int) := (l.take k).flatMap fun p => extM srt i p n
theorem nextM_snoc (n : Nat) (srt : Int → Int) (i : Nat) {l : List (List Int)} {k : Nat} (h : k < l.length) : nextM n srt i l (k + 1) = nextM n srt i l k ++ extM srt i l[k] n := by
  unfold nextM
  rw [take_succ_get h, List.flatMap_append]
  simp
theorem nextM_zero (n : Nat) (srt : Int → Int) (i : Nat) (l : List (List Int)) : nextM n srt i l 0 = [] := rfl
theorem nextM_all (n : Nat) (srt : Int → Int) (i : Nat) : nextM n srt i (allM n srt i) (allM n srt i).length = allM n srt (i + 1) := by
  unfold nextM
  rw [List.take_length]; rfl
theorem nextM_len (n : Nat) (srt : Int → Int) (i : Nat) (l : List (List Int)) : ∀ k, k ≤ l.length → (nextM n srt i l k).length ≤ k * n
  | 0, _ => Nat.zero_le _
  | k + 1, h => by
    rw [nextM_snoc n srt i (by omega), List.length_append, Nat.succ_mul]
    have := nextM_len n srt i l k (by omega)
    have := extM_len srt i (l[k]'(by omega)) n
    omega
theorem allM_len (n : Nat) (srt : Int → Int) : ∀ i, (allM n srt i).length ≤ n ^ i
  | 0 => Nat.le_refl _
  | i + 1 => by
    rw [← nextM_all, Nat.pow_succ]
    exact Nat.le_trans (nextM_len n srt i _ _ (Nat.le_refl _)) (Nat.mul_le_mul_right _ (allM_len n srt i))
theorem allM_small {n : Nat} (h : n ≤ 5) (srt : Int → Int) {i : Nat} (hi : i ≤ n) : (allM n srt i).length ≤ 3125 := by
  refine Nat.le_trans (allM_len n srt i) ?_
  have h1 : n ^ i ≤ 5 ^ i := Nat.pow_le_pow_left h i
  have h2 : 5 ^ i ≤ 5 ^ 5 := Nat.pow_le_pow_right (by omega) (by omega)
  omega
theorem all_len {n : Nat} {srt : Int → Int} {i : Nat} {p : List Int} (h : p ∈ allM n srt i) : p.length = i := (allM_mem.1 h).1
abbrev srtF (at' : List Int) (x : Int) : Int := sortF at' x 0
abbrev encLL (c : List Int) : List PV := [ints c]
attribute [local irreducible] AW AOps thenD inBlockD AR iterEnds roundEndsN inlEnds noGotoD extM nextM allM
theorem all11_fn (at' : List Int) (st : Int) (n : Nat) (h : SmA at') (hn : (n : Int) = at'.sum) (h5 : n ≤ 5) : Fn Try.prog 60 [scp at' st] (.pv (intss (allM n (srtF at') n))) := by
  have ha := atoms11_fn at' st h
  rw [← hn] at ha
  have hso := fun x hx => sort11_fn at' st x h hx
  refine Fn.enter (n := 70) Try.func60 rfl rfl rfl rfl rfl (by decide) fun g hro_ hwt_ => ?_; (try refine nz ?_)
  (refine zq ?_; refine AOps.box rfl rfl rfl rfl ?_; refine nz ?_; refine za ?_; refine zd ?_; refine zq ?_; refine nz ?_; refine AOps.bs0 rfl rfl rfl rfl rfl ?_; refine nz ?_; refine AOps.frzB rfl rfl ?_; refine nz ?_; refine AOps.bs1 rfl rfl rfl rfl rfl rfl rfl rfl ?_; refine nz ?_; refine AOps.assign_own rfl rfl rfl ?_; refine zd ?_; refine zq ?_; refine nz ?_; refine zL ?_; refine nz ?_; refine zA (ha) ?_; refine za ?_; refine zd ?_; refine zo ?_; refine zq ?_; refine nz ?_; refine za ?_; refine zd ?_; refine AW.block ?_)
  (refine nz ?_; apply AW.loopR [4, 2, 1] [0] (fun i : Nat => ([(5, litI i), (3, .pv (intss (allM n (srtF at') i)))] : List (Nat × AV))) (fun i : Nat => ([] : List (Nat × Option Ob))) (fun i : Nat => i ≤ n) (fun i : Nat => n - i) (0); (conv => lhs; simp only [Nf.lpR, Nf.all, Nat.reduceBEq, reduceAdd, reduceSub]); (all_goals skip))
  · exact Nat.zero_le _
  · exact weak rfl (by (refine ⟨.intE (by first | with_reducible rfl | (first | rfl | (unfold allM; rfl))), ?_⟩; refine ⟨.freezeE rfl (by first | with_reducible rfl | (first | rfl | (unfold allM; rfl))), ?_⟩; refine ⟨.intE (by first | with_reducible rfl | (first | rfl | (unfold allM; rfl))), ?_⟩; (iterate 2 refine ⟨.eq rfl rfl, ?_⟩); exact trivial)) (by (refine ⟨.box _ rfl ?_, ?_⟩; refine ⟨.pvE (by first | with_reducible rfl | (first | rfl | (unfold allM; rfl))), ?_⟩; refine ⟨.intE (by first | with_reducible rfl | (first | rfl | (unfold allM; rfl))), ?_⟩; (iterate 2 exact trivial))) rfl
  rintro i hi
  have hal := allM_small h5 (srtF at') hi
  by_cases hlt : i < n
  · have hna := nextM_all n (srtF at') i
    have hpl := fun p (h : p ∈ allM n (srtF at') i) => all_len h
    generalize allM n (srtF at') i = l at hal hna hpl ⊢
    have hnl := nextM_len n (srtF at') i l
    (refine zo ?_; refine zq ?_; (iterate 2 refine zm ?_); refine zs ?_; refine zm ?_; refine zt ?_; refine zm ?_; refine zt ?_; refine zs ?_; refine zT ?_; refine zd ?_; refine zc ?_; refine AW.skip ?_; refine thenD_n ?_; refine zo ?_; refine AW.block ?_; refine zq ?_; refine nz ?_; refine AOps.bs0 rfl rfl rfl rfl rfl ?_; refine nz ?_; refine AOps.assign_own rfl rfl rfl ?_; refine zd ?_; refine zo ?_; refine zq ?_; refine nz ?_; refine za ?_; refine zd ?_; refine AW.block ?_)
    (refine nz ?_; apply AW.loopR [5, 3, 4, 2, 1] [0] (fun k : Nat => ([(7, litI k), (6, .own 3 26 1 ((nextM n (srtF at') i l k).map encLL))] : List (Nat × AV))) (fun k : Nat => ([(3, some .row)] : List (Nat × Option Ob))) (fun k : Nat => k ≤ l.length) (fun k : Nat => l.length - k) (0); (conv => lhs; simp only [Nf.lpR, Nf.all, Nat.reduceBEq, reduceAdd, reduceSub]); (all_goals skip))
    · exact Nat.zero_le _
    · rw [nextM_zero]
      exact weak rfl (by (first | (refine ⟨.eq rfl rfl, ?_⟩; (iterate 7 refine ⟨.eq rfl rfl, ?_⟩); exact trivial) | (refine ⟨.eq rfl rfl, ?_⟩; (iterate 6 refine ⟨.eq rfl rfl, ?_⟩); exact trivial) | (refine ⟨.eq rfl rfl, ?_⟩; refine ⟨.freeze rfl, ?_⟩; (iterate 3 refine ⟨.eq rfl rfl, ?_⟩); exact trivial))) (by (first | (refine ⟨.row rfl, ?_⟩; refine ⟨.box _ rfl ?_, ?_⟩; (iterate 2 refine ⟨.eq rfl rfl, ?_⟩); (iterate 2 exact trivial)) | (refine ⟨.box _ rfl ?_, ?_⟩; (iterate 2 refine ⟨.eq rfl rfl, ?_⟩); (iterate 2 exact trivial)))) rfl
    rintro k hk
    have hnk := hnl k hk
    have hkn : k * n ≤ 3125 * 5 := Nat.mul_le_mul (by omega) h5
    by_cases hlt2 : k < l.length
    · have hsn := nextM_snoc n (srtF at') i hlt2
      have hpk := hpl _ (List.getElem_mem hlt2)
      (refine zo ?_; refine zq ?_; (iterate 2 refine zm ?_); refine zn ?_; refine zs ?_; refine zd ?_; refine zc ?_; refine AW.skip ?_; refine thenD_n ?_; refine zo ?_; refine AW.block ?_; refine zq ?_; refine nz ?_; refine za ?_; refine zd ?_; refine AW.block ?_)
      (refine nz ?_; apply AW.loopR [7, 5, 3, 4, 2, 1] [0] (fun x : Nat => ([(8, litI x), (6, .own 3 26 1 ((nextM n (srtF at') i l k ++ extM (srtF at') i l[k] x).map encLL))] : List (Nat × AV))) (fun x : Nat => ([(3, some .row)] : List (Nat × Option Ob))) (fun x : Nat => x ≤ n) (fun x : Nat => n - x) (0); (conv => lhs; simp only [Nf.lpR, Nf.all, Nat.reduceBEq, reduceAdd, reduceSub]); (all_goals skip))
      · exact Nat.zero_le _
      · rw [extM_zero, List.append_nil]
        exact weak rfl (by (first | (refine ⟨.eq rfl rfl, ?_⟩; (iterate 7 refine ⟨.eq rfl rfl, ?_⟩); exact trivial) | (refine ⟨.eq rfl rfl, ?_⟩; (iterate 6 refine ⟨.eq rfl rfl, ?_⟩); exact trivial) | (refine ⟨.eq rfl rfl, ?_⟩; refine ⟨.freeze rfl, ?_⟩; (iterate 3 refine ⟨.eq rfl rfl, ?_⟩); exact trivial))) (by (first | (refine ⟨.row rfl, ?_⟩; refine ⟨.box _ rfl ?_, ?_⟩; (iterate 2 refine ⟨.eq rfl rfl, ?_⟩); (iterate 2 exact trivial)) | (refine ⟨.box _ rfl ?_, ?_⟩; (iterate 2 refine ⟨.eq rfl rfl, ?_⟩); (iterate 2 exact trivial)))) rfl
      rintro x hx
      have hex := extM_len (srtF at') i l[k] x
      by_cases hlt3 : x < n
      · have hes := extM_snoc (srtF at') i l[k] x
        have s1 := hso (x : Int) (by omega)
        have s2 := hso (i : Int) (by omega)
        have hh := has11_fn l[k] (x : Int) (by omega)
        have hok : okX (srtF at') i l[k] x = (decide (sortF at' (x : Int) 0 = sortF at' (i : Int) 0) && !decide ((x : Int) ∈ l[k])) := rfl
        obtain ⟨sx, hsx⟩ : ∃ sx, sx = sortF at' (x : Int) 0 := ⟨_, rfl⟩
        obtain ⟨si, hsi⟩ : ∃ si, si = sortF at' (i : Int) 0 := ⟨_, rfl⟩
        rw [← hsx] at s1 hok
        rw [← hsi] at s2 hok
        by_cases hxi : sx = si
        · rw [decide_eq_true hxi, Bool.true_and] at hok
          by_cases hm : (x : Int) ∈ l[k]
          · rw [decide_eq_true hm] at hh hok
            rw [hok, if_neg (by decide), List.append_nil] at hes
            (refine zo ?_; refine zq ?_; (iterate 2 refine zm ?_); refine zs ?_; refine zm ?_; refine zt ?_; refine zm ?_; refine zt ?_; refine zs ?_; refine zT ?_; refine zd ?_; refine zc ?_; refine AW.skip ?_; refine thenD_n ?_; refine zo ?_; refine AW.block ?_; (iterate 2 refine zo ?_); (with_reducible apply AW.regionQ); exact rfl; exact rfl; kernel_rfl; (with_reducible assumption); refine zL ?_; refine nz ?_; refine zm ?_; refine zA (s1) ?_; refine zL ?_; refine nz ?_; refine zm ?_; refine zA (s2) ?_; refine AOps.neq rfl rfl rfl rfl rfl ?_; refine zm ?_; refine zy ?_; refine zm ?_; refine zy ?_; refine zm ?_; refine zy ?_; (focus ((with_reducible apply AOps.index_map); (iterate 7 exact rfl); rotate_left; omega)); refine zy ?_; refine zr ?_; refine zy ?_; refine zm ?_; refine zy ?_; refine zA (hh) ?_; refine zF ?_; refine zd ?_; refine AW.cond_lt rfl rfl ?_; refine AW.exit ?_; refine thenD_exit ?_; refine inBlockD_exit ?_; refine thenD_n ?_; refine AW.region ?_; refine nz ?_; refine zm ?_; refine zj ?_; refine za ?_; refine zd ?_)
            exact ⟨x + 1, by omega, by omega, weak rfl (by (refine ⟨.intE (by first | with_reducible rfl | (first | rfl | (rw [hes]))), ?_⟩; refine ⟨.ownE (by first | with_reducible rfl | (first | rfl | (rw [hes]))) rfl, ?_⟩; refine ⟨.intE (by first | with_reducible rfl | (first | rfl | (rw [hes]))), ?_⟩; refine ⟨.intE (by first | with_reducible rfl | (first | rfl | (rw [hes]))), ?_⟩; refine ⟨.pvE (by first | with_reducible rfl | (first | rfl | (rw [hes]))), ?_⟩; refine ⟨.intE (by first | with_reducible rfl | (first | rfl | (rw [hes]))), ?_⟩; (iterate 2 refine ⟨.eq rfl rfl, ?_⟩); exact trivial)) (by (refine ⟨.row rfl, ?_⟩; refine ⟨.box _ rfl ?_, ?_⟩; refine ⟨.pvE (by first | with_reducible rfl | (first | rfl | (rw [hes]))), ?_⟩; refine ⟨.intE (by first | with_reducible rfl | (first | rfl | (rw [hes]))), ?_⟩; (iterate 2 exact trivial))) rfl⟩
          · rw [decide_eq_false hm] at hh hok
            rw [hok, if_pos (by decide)] at hes
            (refine zo ?_; refine zq ?_; (iterate 2 refine zm ?_); refine zs ?_; refine zm ?_; refine zt ?_; refine zm ?_; refine zt ?_; refine zs ?_; refine zT ?_; refine zd ?_; refine zc ?_; refine AW.skip ?_; refine thenD_n ?_; refine zo ?_; refine AW.block ?_; (iterate 2 refine zo ?_); (with_reducible apply AW.regionQ); exact rfl; exact rfl; kernel_rfl; (with_reducible assumption); refine zL ?_; refine nz ?_; refine zm ?_; refine zA (s1) ?_; refine zL ?_; refine nz ?_; refine zm ?_; refine zA (s2) ?_; refine AOps.neq rfl rfl rfl rfl rfl ?_; refine zm ?_; refine zy ?_; refine zm ?_; refine zy ?_; refine zm ?_; refine zy ?_; (focus ((with_reducible apply AOps.index_map); (iterate 7 exact rfl); rotate_left; omega)); refine zy ?_; refine zr ?_; refine zy ?_; refine zm ?_; refine zy ?_; refine zA (hh) ?_; refine zF ?_; refine zd ?_; refine AW.cond_lf rfl rfl ?_; refine AW.skip ?_; refine thenD_n ?_; refine zq ?_; refine nz ?_; refine AOps.bs0 rfl rfl rfl rfl rfl ?_; refine nz ?_; (iterate 2 refine zm ?_); (focus ((with_reducible apply AOps.index_map); (iterate 7 exact rfl); rotate_left; omega)); refine zr ?_; (with_reducible apply AOps.appendS); exact rfl; (first | exact .pv rfl | exact .own rfl | exact .nil rfl); (iterate 9 exact rfl); (first | omega | (simp only [List.length_map, List.length_append, List.length_cons, List.length_nil, List.length_drop, List.length_take, List.length_set, chunk_len]; omega)); refine nz ?_; refine AOps.assign_own rfl rfl rfl ?_; refine zd ?_; refine zq ?_; refine nz ?_; refine AOps.move_own rfl rfl rfl ?_; refine zm ?_; refine AOps.bs1 rfl rfl rfl rfl rfl rfl rfl rfl ?_; refine nz ?_; (with_reducible apply AOps.appendS); exact rfl; (first | exact .pv rfl | exact .own rfl | exact .nil rfl); (iterate 9 exact rfl); (first | omega | (simp only [List.length_map, List.length_append, List.length_cons, List.length_nil, List.length_drop, List.length_take, List.length_set, chunk_len]; omega)); refine nz ?_; refine AOps.assign_own rfl rfl rfl ?_; refine zd ?_; refine AW.region ?_; refine nz ?_; (iterate 2 refine AOps.move_own rfl rfl rfl ?_); refine AOps.frzB rfl rfl ?_; refine nz ?_; refine AOps.bs1 rfl rfl rfl rfl rfl rfl rfl rfl ?_; refine nz ?_; (with_reducible apply AOps.appendS); exact rfl; (first | exact .pv rfl | exact .own rfl | exact .nil rfl); (iterate 9 exact rfl); (first | omega | (simp only [List.length_map, List.length_append, List.length_cons, List.length_nil, List.length_drop, List.length_take, List.length_set, chunk_len]; omega)); refine nz ?_; refine AOps.assign_own rfl rfl rfl ?_; refine AOps.nil ?_; refine inBlockD_n ?_; refine thenD_n ?_; refine AW.region ?_; refine nz ?_; refine zm ?_; refine zj ?_; refine za ?_; refine zd ?_)
            exact ⟨x + 1, by omega, by omega, weak rfl (by (refine ⟨.intE (by first | with_reducible rfl | (first | rfl | (rw [hes, ← List.append_assoc, List.map_append]; rfl) | (rw [hes, ← List.append_assoc, List.map_append]; simp [encLL]; rfl))), ?_⟩; refine ⟨.ownE (by first | with_reducible rfl | (first | rfl | (rw [hes, ← List.append_assoc, List.map_append]; rfl) | (rw [hes, ← List.append_assoc, List.map_append]; simp [encLL]; rfl))) rfl, ?_⟩; refine ⟨.intE (by first | with_reducible rfl | (first | rfl | (rw [hes, ← List.append_assoc, List.map_append]; rfl) | (rw [hes, ← List.append_assoc, List.map_append]; simp [encLL]; rfl))), ?_⟩; refine ⟨.intE (by first | with_reducible rfl | (first | rfl | (rw [hes, ← List.append_assoc, List.map_append]; rfl) | (rw [hes, ← List.append_assoc, List.map_append]; simp [encLL]; rfl))), ?_⟩; refine ⟨.pvE (by first | with_reducible rfl | (first | rfl | (rw [hes, ← List.append_assoc, List.map_append]; rfl) | (rw [hes, ← List.append_assoc, List.map_append]; simp [encLL]; rfl))), ?_⟩; refine ⟨.intE (by first | with_reducible rfl | (first | rfl | (rw [hes, ← List.append_assoc, List.map_append]; rfl) | (rw [hes, ← List.append_assoc, List.map_append]; simp [encLL]; rfl))), ?_⟩; (iterate 2 refine ⟨.eq rfl rfl, ?_⟩); exact trivial)) (by (refine ⟨.row rfl, ?_⟩; refine ⟨.box _ rfl ?_, ?_⟩; refine ⟨.pvE (by first | with_reducible rfl | (first | rfl | (rw [hes, ← List.append_assoc, List.map_append]; rfl) | (rw [hes, ← List.append_assoc, List.map_append]; simp [encLL]; rfl))), ?_⟩; refine ⟨.intE (by first | with_reducible rfl | (first | rfl | (rw [hes, ← List.append_assoc, List.map_append]; rfl) | (rw [hes, ← List.append_assoc, List.map_append]; simp [encLL]; rfl))), ?_⟩; (iterate 2 exact trivial))) rfl⟩
        · rw [decide_eq_false hxi, Bool.false_and] at hok
          rw [hok, if_neg (by decide), List.append_nil] at hes
          (refine zo ?_; refine zq ?_; (iterate 2 refine zm ?_); refine zs ?_; refine zm ?_; refine zt ?_; refine zm ?_; refine zt ?_; refine zs ?_; refine zT ?_; refine zd ?_; refine zc ?_; refine AW.skip ?_; refine thenD_n ?_; refine zo ?_; refine AW.block ?_; (iterate 2 refine zo ?_); (with_reducible apply AW.regionQ); exact rfl; exact rfl; kernel_rfl; (with_reducible assumption); refine zL ?_; refine nz ?_; refine zm ?_; refine zA (s1) ?_; refine zL ?_; refine nz ?_; refine zm ?_; refine zA (s2) ?_; refine AOps.neq rfl rfl rfl rfl rfl ?_; refine zm ?_; (iterate 6 refine AOps.guardFn rfl rfl rfl rfl rfl rfl (by with_reducible assumption) ?_); refine zT ?_; refine zd ?_; refine AW.cond_lt rfl rfl ?_; refine AW.exit ?_; refine thenD_exit ?_; refine inBlockD_exit ?_; refine thenD_n ?_; refine AW.region ?_; refine nz ?_; refine zm ?_; refine zj ?_; refine za ?_; refine zd ?_)
          exact ⟨x + 1, by omega, by omega, weak rfl (by (refine ⟨.intE (by first | with_reducible rfl | (first | rfl | (rw [hes]))), ?_⟩; refine ⟨.ownE (by first | with_reducible rfl | (first | rfl | (rw [hes]))) rfl, ?_⟩; refine ⟨.intE (by first | with_reducible rfl | (first | rfl | (rw [hes]))), ?_⟩; refine ⟨.intE (by first | with_reducible rfl | (first | rfl | (rw [hes]))), ?_⟩; refine ⟨.pvE (by first | with_reducible rfl | (first | rfl | (rw [hes]))), ?_⟩; refine ⟨.intE (by first | with_reducible rfl | (first | rfl | (rw [hes]))), ?_⟩; (iterate 2 refine ⟨.eq rfl rfl, ?_⟩); exact trivial)) (by (refine ⟨.row rfl, ?_⟩; refine ⟨.box _ rfl ?_, ?_⟩; refine ⟨.pvE (by first | with_reducible rfl | (first | rfl | (rw [hes]))), ?_⟩; refine ⟨.intE (by first | with_reducible rfl | (first | rfl | (rw [hes]))), ?_⟩; (iterate 2 exact trivial))) rfl⟩
      · obtain rfl : x = n := by omega
        (refine zo ?_; refine zq ?_; (iterate 2 refine zm ?_); refine zs ?_; refine zm ?_; (iterate 2 refine AOps.guardTn rfl rfl rfl rfl rfl rfl (by first | omega | decide) ?_); refine zF ?_; refine zd ?_; refine AW.cond_lf rfl rfl ?_; refine AW.exit ?_; (iterate 2 refine thenD_exit ?_); refine inBlockD_exit ?_; refine inBlockD_n ?_; refine thenD_n ?_; refine AW.region ?_; refine nz ?_; refine zm ?_; refine zj ?_; refine za ?_; refine zd ?_)
        exact ⟨k + 1, by omega, by omega, weak rfl (by (refine ⟨.intE (by first | with_reducible rfl | (first | rfl | (rw [hsn]))), ?_⟩; refine ⟨.ownE (by first | with_reducible rfl | (first | rfl | (rw [hsn]))) rfl, ?_⟩; refine ⟨.intE (by first | with_reducible rfl | (first | rfl | (rw [hsn]))), ?_⟩; refine ⟨.pvE (by first | with_reducible rfl | (first | rfl | (rw [hsn]))), ?_⟩; refine ⟨.intE (by first | with_reducible rfl | (first | rfl | (rw [hsn]))), ?_⟩; (iterate 2 refine ⟨.eq rfl rfl, ?_⟩); exact trivial)) (by (refine ⟨.row rfl, ?_⟩; refine ⟨.box _ rfl ?_, ?_⟩; refine ⟨.pvE (by first | with_reducible rfl | (first | rfl | (rw [hsn]))), ?_⟩; refine ⟨.intE (by first | with_reducible rfl | (first | rfl | (rw [hsn]))), ?_⟩; (iterate 2 exact trivial))) rfl⟩
    · obtain rfl : k = l.length := by omega
      rw [hna]
      (refine zo ?_; refine zq ?_; (iterate 2 refine zm ?_); refine zn ?_; refine zs ?_; refine zd ?_; refine zk ?_; refine AW.exit ?_; (iterate 2 refine thenD_exit ?_); refine inBlockD_exit ?_; refine thenD_n ?_; refine AW.region ?_; refine nz ?_; refine AOps.move_own rfl rfl rfl ?_; refine AOps.assign_own rfl rfl rfl ?_; refine AOps.nil ?_; refine inBlockD_n ?_; refine thenD_n ?_; refine AW.region ?_; refine nz ?_; refine zm ?_; refine zj ?_; refine za ?_; refine zd ?_)
      exact ⟨i + 1, by omega, by omega, weak rfl (by (first | (refine ⟨.eq rfl rfl, ?_⟩; (iterate 7 refine ⟨.eq rfl rfl, ?_⟩); exact trivial) | (refine ⟨.eq rfl rfl, ?_⟩; (iterate 6 refine ⟨.eq rfl rfl, ?_⟩); exact trivial) | (refine ⟨.eq rfl rfl, ?_⟩; refine ⟨.freeze rfl, ?_⟩; (iterate 3 refine ⟨.eq rfl rfl, ?_⟩); exact trivial))) (by (first | (refine ⟨.row rfl, ?_⟩; refine ⟨.box _ rfl ?_, ?_⟩; (iterate 2 refine ⟨.eq rfl rfl, ?_⟩); (iterate 2 exact trivial)) | (refine ⟨.box _ rfl ?_, ?_⟩; (iterate 2 refine ⟨.eq rfl rfl, ?_⟩); (iterate 2 exact trivial)))) rfl⟩
  · obtain rfl : i = n := by omega
    (refine zo ?_; refine zq ?_; (iterate 2 refine zm ?_); refine zs ?_; refine zm ?_; (iterate 2 refine AOps.guardTn rfl rfl rfl rfl rfl rfl (by first | omega | decide) ?_); refine zF ?_; refine zd ?_; refine AW.cond_lf rfl rfl ?_; refine AW.exit ?_; (iterate 2 refine thenD_exit ?_); refine inBlockD_exit ?_; refine thenD_n ?_; refine zq ?_; refine nz ?_; refine zm ?_; refine za ?_; refine zd ?_; refine AW.ret ?_)
    (apply ends_ret; (exact Res.one (.tmp rfl rfl)); (refine Le.pvE ?_; (rfl)))
def fxF (so : List SortM) (at' : List Int) (x : Int) : Bool := decide (0 ≤ sortF at' x 0) && (decide (sortF at' x 0 < (so.length : Int)) && (so.getD (sortF at' x 0).toNat (ByteArray.empty, false)).2)
def fixX (so : List SortM) (at' p : List Int) (x : Nat) : Bool := !fxF so at' x || decide (p.getD x 0 = (x : Int))
def fixB (so : List SortM) (at' p : List Int) : Bool := (List.range p.length).all (fixX so at' p)
theorem rangeAll (f : Nat → Bool) (k : Nat) : (List.range (k + 1)).all f = ((List.range k).all f && f k) := by
  rw [List.range_succ, List.all_append]; simp
theorem rangeNot {f : Nat → Bool} {n k : Nat} (h : k < n) (hf : f k = false) : (List.range n).all f = false := by
  rw [List.all_eq_false]
  exact ⟨k, List.mem_range.2 h, by rw [hf]; simp⟩
attribute [local irreducible] fixB fixX sortF
theorem fixes_fn (s : SpecM) (at' : List Int) (st : Int) (p : List Int) (h : SmA at') (hl : p.length ≤ 100) : Fn Try.prog 61 [spc s, scp at' st, .pv (ints p)] (litB (fixB s.sorts at' p)) := by
  have hso := fun x hx => rSort_fn at' st x h hx
  obtain ⟨so, fs, pr, fa⟩ := s
  simp only
  have hfb : fixB so at' p = (List.range p.length).all (fixX so at' p) := by unfold fixB; rfl
  refine Fn.enter (n := 43) Try.func61 rfl rfl rfl rfl rfl (by decide) fun g hro_ hwt_ => ?_; (try refine nz ?_)
  (refine zq ?_; refine AOps.box rfl rfl rfl rfl ?_; refine nz ?_; refine AOps.box rfl rfl rfl rfl ?_; refine nz ?_; refine za ?_; refine zd ?_; refine zo ?_; refine zq ?_; refine nz ?_; refine za ?_; refine zd ?_; refine AW.block ?_)
  (refine nz ?_; apply AW.loopR [4, 3, 2] [1, 0] (fun k : Nat => ([(7, litI k)] : List (Nat × AV))) (fun k : Nat => ([] : List (Nat × Option Ob))) (fun k : Nat => k ≤ p.length ∧ (List.range k).all (fixX so at' p) = true) (fun k : Nat => p.length - k) (0); (conv => lhs; simp only [Nf.lpR, Nf.all, Nat.reduceBEq, reduceAdd, reduceSub]); (all_goals skip))
  · exact ⟨Nat.zero_le _, rfl⟩
  · exact weak rfl (by (refine ⟨.eq rfl rfl, ?_⟩; (iterate 3 refine ⟨.eq rfl rfl, ?_⟩); exact trivial)) (by (refine ⟨.box _ rfl ?_, ?_⟩; (iterate 2 refine ⟨.eq rfl rfl, ?_⟩); exact trivial; refine ⟨.box _ rfl ?_, ?_⟩; (iterate 4 refine ⟨.eq rfl rfl, ?_⟩); (iterate 2 exact trivial))) rfl
  rintro k ⟨hk, hno⟩
  by_cases hlt : k < p.length
  · have s1 := hso (k : Int) (by omega)
    have hra := rangeAll (fixX so at' p) k
    have hrn := rangeNot (f := fixX so at' p) hlt
    rw [hno, Bool.true_and] at hra
    have hfx : fixX so at' p k = (!(decide (0 ≤ sortF at' (k : Int) 0) && (decide (sortF at' (k : Int) 0 < (so.length : Int)) && (so.getD (sortF at' (k : Int) 0).toNat (ByteArray.empty, false)).2)) || decide (p.getD k 0 = (k : Int))) := by unfold fixX fxF; rfl
    rw [getD_of hlt] at hfx
    generalize sortF at' (k : Int) 0 = sv at s1 hfx
    by_cases c1 : 0 ≤ sv
    · by_cases c2 : sv < (so.length : Int)
      · rw [decide_eq_true c1, decide_eq_true c2, Bool.true_and, Bool.true_and, getD_of (by omega)] at hfx
        cases c3 : (so[sv.toNat]'(by omega)).2 with
        | true =>
          rw [c3] at hfx
          by_cases c4 : p[k] = (k : Int)
          · rw [decide_eq_true c4] at hfx
            rw [hfx] at hra
            (refine zo ?_; refine zq ?_; (iterate 2 refine zm ?_); refine zn ?_; refine zs ?_; refine zd ?_; refine zc ?_; refine AW.skip ?_; refine thenD_n ?_; refine zo ?_; refine AW.block ?_; refine zq ?_; refine nz ?_; refine zL ?_; refine nz ?_; refine zm ?_; refine zA (s1) ?_; refine za ?_; refine zd ?_; refine zq ?_; refine nz ?_; refine zm ?_; refine AOps.geq rfl rfl rfl rfl rfl ?_; refine zm ?_; refine zt ?_; refine zm ?_; refine zt ?_; refine AOps.fieldAddrN 47 0 0 rfl rfl rfl rfl ?_; refine zt ?_; refine zb ?_; refine zt ?_; refine zn ?_; refine zt ?_; refine zs ?_; refine zT ?_; refine zm ?_; refine zt ?_; refine AOps.fieldAddrN 47 0 0 rfl rfl rfl rfl ?_; refine zt ?_; refine zb ?_; refine zt ?_; refine zm ?_; refine zt ?_; (focus ((with_reducible apply AOps.index_mapI); (iterate 7 exact rfl); omega; rotate_left; (first | omega | exact Nat.zero_lt_one | exact (by simp)))); refine zt ?_; refine AOps.fieldAddr_rN 69 1 1 1 rfl rfl rfl rfl ?_; refine nz ?_; refine zt ?_; refine zr ?_; refine zT ?_; refine zm ?_; refine AOps.guard_lt rfl rfl rfl rfl rfl (by assumption) rfl ?_; refine zm ?_; refine AOps.guard_lt rfl rfl rfl rfl rfl (by assumption) rfl ?_; refine zm ?_; refine AOps.guard_lt rfl rfl rfl rfl rfl (by assumption) rfl ?_; (focus ((with_reducible apply AOps.index_map); (iterate 7 exact rfl); rotate_left; omega)); refine AOps.guard_lt rfl rfl rfl rfl rfl (by assumption) rfl ?_; refine zr ?_; refine AOps.guard_lt rfl rfl rfl rfl rfl (by assumption) rfl ?_; refine zm ?_; refine AOps.guard_lt rfl rfl rfl rfl rfl (by assumption) rfl ?_; refine AOps.neq rfl rfl rfl rfl rfl ?_; refine AOps.pickBt rfl rfl (by assumption) rfl rfl rfl rfl ?_; refine zd ?_; refine zk ?_; refine AW.skip ?_; refine inBlockD_n ?_; refine thenD_n ?_; refine AW.region ?_; refine nz ?_; refine zm ?_; refine zj ?_; refine za ?_; refine zd ?_)
            exact ⟨k + 1, ⟨by omega, hra⟩, by omega, weak rfl (by (refine ⟨.eq rfl rfl, ?_⟩; (iterate 3 refine ⟨.eq rfl rfl, ?_⟩); exact trivial)) (by (refine ⟨.box _ rfl ?_, ?_⟩; (iterate 2 refine ⟨.eq rfl rfl, ?_⟩); exact trivial; refine ⟨.box _ rfl ?_, ?_⟩; (iterate 4 refine ⟨.eq rfl rfl, ?_⟩); (iterate 2 exact trivial))) rfl⟩
          · rw [decide_eq_false c4] at hfx
            rw [hfb, hrn hfx]
            (refine zo ?_; refine zq ?_; (iterate 2 refine zm ?_); refine zn ?_; refine zs ?_; refine zd ?_; refine zc ?_; refine AW.skip ?_; refine thenD_n ?_; refine zo ?_; refine AW.block ?_; refine zq ?_; refine nz ?_; refine zL ?_; refine nz ?_; refine zm ?_; refine zA (s1) ?_; refine za ?_; refine zd ?_; refine zq ?_; refine nz ?_; refine zm ?_; refine AOps.geq rfl rfl rfl rfl rfl ?_; refine zm ?_; refine zt ?_; refine zm ?_; refine zt ?_; refine AOps.fieldAddrN 47 0 0 rfl rfl rfl rfl ?_; refine zt ?_; refine zb ?_; refine zt ?_; refine zn ?_; refine zt ?_; refine zs ?_; refine zT ?_; refine zm ?_; refine zt ?_; refine AOps.fieldAddrN 47 0 0 rfl rfl rfl rfl ?_; refine zt ?_; refine zb ?_; refine zt ?_; refine zm ?_; refine zt ?_; (focus ((with_reducible apply AOps.index_mapI); (iterate 7 exact rfl); omega; rotate_left; (first | omega | exact Nat.zero_lt_one | exact (by simp)))); refine zt ?_; refine AOps.fieldAddr_rN 69 1 1 1 rfl rfl rfl rfl ?_; refine nz ?_; refine zt ?_; refine zr ?_; refine zT ?_; refine zm ?_; refine AOps.guard_lt rfl rfl rfl rfl rfl (by assumption) rfl ?_; refine zm ?_; refine AOps.guard_lt rfl rfl rfl rfl rfl (by assumption) rfl ?_; refine zm ?_; refine AOps.guard_lt rfl rfl rfl rfl rfl (by assumption) rfl ?_; (focus ((with_reducible apply AOps.index_map); (iterate 7 exact rfl); rotate_left; omega)); refine AOps.guard_lt rfl rfl rfl rfl rfl (by assumption) rfl ?_; refine zr ?_; refine AOps.guard_lt rfl rfl rfl rfl rfl (by assumption) rfl ?_; refine zm ?_; refine AOps.guard_lt rfl rfl rfl rfl rfl (by assumption) rfl ?_; refine AOps.neq rfl rfl rfl rfl rfl ?_; refine AOps.pickBt rfl rfl (by assumption) rfl rfl rfl rfl ?_; refine zd ?_; refine zc ?_; refine zq ?_; refine nz ?_; refine za ?_; refine zd ?_; refine AW.ret ?_; refine inBlockD_ret ?_; (iterate 2 refine thenD_ret ?_); refine inBlockD_ret ?_; refine thenD_ret ?_)
            (apply ends_ret; (exact Res.one (.tmp rfl rfl)); (refine Le.litB ?_; (rfl)))
        | false =>
          rw [c3] at hfx
          rw [hfx] at hra
          (refine zo ?_; refine zq ?_; (iterate 2 refine zm ?_); refine zn ?_; refine zs ?_; refine zd ?_; refine zc ?_; refine AW.skip ?_; refine thenD_n ?_; refine zo ?_; refine AW.block ?_; refine zq ?_; refine nz ?_; refine zL ?_; refine nz ?_; refine zm ?_; refine zA (s1) ?_; refine za ?_; refine zd ?_; refine zq ?_; refine nz ?_; refine zm ?_; refine AOps.geq rfl rfl rfl rfl rfl ?_; refine zm ?_; refine zt ?_; refine zm ?_; refine zt ?_; refine AOps.fieldAddrN 47 0 0 rfl rfl rfl rfl ?_; refine zt ?_; refine zb ?_; refine zt ?_; refine zn ?_; refine zt ?_; refine zs ?_; refine zT ?_; refine zm ?_; refine zt ?_; refine AOps.fieldAddrN 47 0 0 rfl rfl rfl rfl ?_; refine zt ?_; refine zb ?_; refine zt ?_; refine zm ?_; refine zt ?_; (focus ((with_reducible apply AOps.index_mapI); (iterate 7 exact rfl); omega; rotate_left; (first | omega | exact Nat.zero_lt_one | exact (by simp)))); refine zt ?_; refine AOps.fieldAddr_rN 69 1 1 1 rfl rfl rfl rfl ?_; refine nz ?_; refine zt ?_; refine zr ?_; refine zT ?_; refine zm ?_; (iterate 6 refine AOps.guard_lf rfl rfl rfl rfl rfl (by assumption) rfl ?_); refine AOps.pickBf rfl rfl (by assumption) rfl rfl rfl rfl ?_; refine zd ?_; refine AW.cond_lf rfl rfl ?_; refine AW.skip ?_; refine inBlockD_n ?_; refine thenD_n ?_; refine AW.region ?_; refine nz ?_; refine zm ?_; refine zj ?_; refine za ?_; refine zd ?_)
          exact ⟨k + 1, ⟨by omega, hra⟩, by omega, weak rfl (by (refine ⟨.eq rfl rfl, ?_⟩; (iterate 3 refine ⟨.eq rfl rfl, ?_⟩); exact trivial)) (by (refine ⟨.box _ rfl ?_, ?_⟩; (iterate 2 refine ⟨.eq rfl rfl, ?_⟩); exact trivial; refine ⟨.box _ rfl ?_, ?_⟩; (iterate 4 refine ⟨.eq rfl rfl, ?_⟩); (iterate 2 exact trivial))) rfl⟩
      · rw [decide_eq_false c2, Bool.false_and, Bool.and_false] at hfx
        rw [hfx] at hra
        (refine zo ?_; refine zq ?_; (iterate 2 refine zm ?_); refine zn ?_; refine zs ?_; refine zd ?_; refine zc ?_; refine AW.skip ?_; refine thenD_n ?_; refine zo ?_; refine AW.block ?_; refine zq ?_; refine nz ?_; refine zL ?_; refine nz ?_; refine zm ?_; refine zA (s1) ?_; refine za ?_; refine zd ?_; refine zq ?_; refine nz ?_; refine zm ?_; refine AOps.geq rfl rfl rfl rfl rfl ?_; refine zm ?_; refine zt ?_; refine zm ?_; refine zt ?_; refine AOps.fieldAddrN 47 0 0 rfl rfl rfl rfl ?_; refine zt ?_; refine zb ?_; refine zt ?_; refine zn ?_; refine zt ?_; refine zs ?_; refine zT ?_; refine zm ?_; (iterate 6 refine AOps.guardTn rfl rfl rfl rfl rfl rfl (by with_reducible assumption) ?_); refine zF ?_; refine zm ?_; (iterate 6 refine AOps.guard_lf rfl rfl rfl rfl rfl rfl rfl ?_); refine AOps.pick_lf rfl rfl rfl rfl rfl rfl ?_; refine zd ?_; refine AW.cond_lf rfl rfl ?_; refine AW.skip ?_; refine inBlockD_n ?_; refine thenD_n ?_; refine AW.region ?_; refine nz ?_; refine zm ?_; refine zj ?_; refine za ?_; refine zd ?_)
        exact ⟨k + 1, ⟨by omega, hra⟩, by omega, weak rfl (by (refine ⟨.eq rfl rfl, ?_⟩; (iterate 3 refine ⟨.eq rfl rfl, ?_⟩); exact trivial)) (by (refine ⟨.box _ rfl ?_, ?_⟩; (iterate 2 refine ⟨.eq rfl rfl, ?_⟩); exact trivial; refine ⟨.box _ rfl ?_, ?_⟩; (iterate 4 refine ⟨.eq rfl rfl, ?_⟩); (iterate 2 exact trivial))) rfl⟩
    · rw [decide_eq_false c1, Bool.false_and] at hfx
      rw [hfx] at hra
      (refine zo ?_; refine zq ?_; (iterate 2 refine zm ?_); refine zn ?_; refine zs ?_; refine zd ?_; refine zc ?_; refine AW.skip ?_; refine thenD_n ?_; refine zo ?_; refine AW.block ?_; refine zq ?_; refine nz ?_; refine zL ?_; refine nz ?_; refine zm ?_; refine zA (s1) ?_; refine za ?_; refine zd ?_; refine zq ?_; refine nz ?_; refine zm ?_; refine AOps.geq rfl rfl rfl rfl rfl ?_; refine zm ?_; (iterate 5 refine AOps.guardTn rfl rfl rfl rfl rfl rfl (by with_reducible assumption) ?_); refine zF ?_; refine zm ?_; (iterate 6 refine AOps.guard_lf rfl rfl rfl rfl rfl rfl rfl ?_); refine AOps.pick_lf rfl rfl rfl rfl rfl rfl ?_; refine zm ?_; (iterate 6 refine AOps.guard_lf rfl rfl rfl rfl rfl rfl rfl ?_); refine AOps.pick_lf rfl rfl rfl rfl rfl rfl ?_; refine zd ?_; refine AW.cond_lf rfl rfl ?_; refine AW.skip ?_; refine inBlockD_n ?_; refine thenD_n ?_; refine AW.region ?_; refine nz ?_; refine zm ?_; refine zj ?_; refine za ?_; refine zd ?_)
      exact ⟨k + 1, ⟨by omega, hra⟩, by omega, weak rfl (by (refine ⟨.eq rfl rfl, ?_⟩; (iterate 3 refine ⟨.eq rfl rfl, ?_⟩); exact trivial)) (by (refine ⟨.box _ rfl ?_, ?_⟩; (iterate 2 refine ⟨.eq rfl rfl, ?_⟩); exact trivial; refine ⟨.box _ rfl ?_, ?_⟩; (iterate 4 refine ⟨.eq rfl rfl, ?_⟩); (iterate 2 exact trivial))) rfl⟩
  · obtain rfl : k = p.length := by omega
    rw [hfb, hno]
    (refine zo ?_; refine zq ?_; (iterate 2 refine zm ?_); refine zn ?_; refine zs ?_; refine zd ?_; refine zk ?_; refine AW.exit ?_; (iterate 2 refine thenD_exit ?_); refine inBlockD_exit ?_; refine thenD_n ?_; refine zq ?_; refine nz ?_; refine za ?_; refine zd ?_; refine AW.ret ?_)
    (apply ends_ret; (exact Res.one (.tmp rfl rfl)); (refine Le.litB ?_; (rfl)))
end Go.Ab
/- Chapter 09: the plain laws. -/
namespace Go.Ab
open Go Go.Proofs
set_option maxRecDepth 20000
set_option maxHeartbeats 4000000
structure Fit (s : SpecM) (at' : List Int) : Prop where
  cols : ∀ f ∈ s.fields, colsB at'.length f.sorts = true
  fs : s.fields.length ≤ 6
  sm : SmA at'
  top : at'.sum ≤ 12
  one : 1 ≤ at'.sum
theorem fit_of {s : SpecM} {at' : List Int} {st : Int} (h : fits9 s at' st = true) : Fit s at' := by
  unfold fits9 sizedB fieldsB at h
  simp only [Bool.and_eq_true, decide_eq_true_eq, List.all_eq_true] at h
  obtain ⟨⟨h1, h2, h3, h4⟩, h5, h6, ⟨h7, h8, h9⟩, h10, h11⟩ := h
  have hsm := sizesOk_sm h10 (by omega)
  refine ⟨fun f hf => by rw [← h6]; exact h5 f hf, h3, hsm, h11, ?_⟩
  have hl : 1 ≤ at'.length := by omega
  clear h5 h6 h4 h7
  match at', hl with
  | x :: r, _ =>
    have e1 := sizesOk_all.1 h10 x (by simp)
    have e2 := sum_nn (l := r) fun y hy => (hsm.2 y (by simp [hy])).1
    simp; omega
theorem selL_sub (q : Nat → Bool) : ∀ (l : List Int) (i : Nat), (selL q i l).Sublist l
  | [], _ => List.Sublist.slnil
  | t :: ts, i => by
    show ((if q i = true then [t] else []) ++ selL q (i + 1) ts).Sublist (t :: ts)
    split
    · exact (selL_sub q ts (i + 1)).cons_cons t
    · exact (selL_sub q ts (i + 1)).cons t
theorem selL_mono {q q' : Nat → Bool} (h : ∀ k, q k = true → q' k = true) : ∀ (l : List Int) (i : Nat), (selL q i l).Sublist (selL q' i l)
  | [], _ => List.Sublist.slnil
  | t :: ts, i => by
    show ((if q i = true then [t] else []) ++ selL q (i + 1) ts).Sublist ((if q' i = true then [t] else []) ++ selL q' (i + 1) ts)
    have ih := selL_mono h ts (i + 1)
    by_cases h1 : q i = true
    · rw [if_pos h1, if_pos (h i h1)]; exact ih.cons_cons t
    · rw [if_neg h1]
      split
      · exact ih.cons t
      · exact ih
theorem full_facts {s : SpecM} {at' : List Int} (hf : Fit s at') {f : FieldM} (h : f ∈ s.fields) : Inc (fullR at' f.sorts).2 ∧ relOk at'.sum (fullR at' f.sorts) = true := by
  have hok := full_ok (hf.cols f h) hf.sm hf.top
  exact ⟨(relOk_iff.1 hok).2.1, hok⟩
structure Good (at' : List Int) (fs : List FieldM) (a : List BndM) : Prop where
  len : a.length = fs.length
  get : ∀ k (h : k < fs.length), Rising (a[k]'(by omega)) ∧ (a[k]'(by omega)).1.1 = fs[k].sorts.length ∧ ∀ t ∈ (a[k]'(by omega)).2.2, t ∈ (fullR at' fs[k].sorts).2
theorem good_made {s : SpecM} {at' : List Int} (hf : Fit s at') (raw : List (List Int)) : Good at' s.fields (madeL at' raw 0 s.fields) := by
  refine ⟨madeL_len _ _ _ _, fun k hk => ?_⟩
  have hfu := (full_facts hf (List.getElem_mem hk)).1
  rw [madeL_at at' raw s.fields 0 k hk]
  refine ⟨⟨hfu.sublist (selL_sub _ _ _), hfu.sublist (selL_sub _ _ _), ?_, rfl⟩, rfl, fun t ht => (selL_sub _ _ _).subset ht⟩
  intro t ht
  refine (selL_mono (fun k h => ?_) _ _).subset ht
  simp only [decide_eq_true_eq] at h ⊢
  omega
theorem good_vB {s : SpecM} {at' : List Int} (hf : Fit s at') {a : List BndM} (h : Good at' s.fields a) {k : Nat} (hk : k < s.fields.length) : vB at' s.fields[k] (a[k]'(by rw [h.len]; exact hk)) = true := by
  obtain ⟨hr, ha, hu⟩ := h.get k hk
  have hfo := relOk_iff.1 (full_facts hf (List.getElem_mem hk)).2
  have har := hr.ar
  unfold vB
  simp only [Bool.and_eq_true, decide_eq_true_eq, subL_iff]
  have hfl : ((fullR at' s.fields[k].sorts).1) = (s.fields[k].sorts.length : Int) := rfl
  have hup : ∀ t ∈ (a[k]'(by rw [h.len]; exact hk)).2.2, 0 ≤ t ∧ t < at'.sum ^ s.fields[k].sorts.length := by
    intro t ht
    have := hfo.2.2 t (hu t ht)
    rw [hfl, Int.toNat_natCast] at this
    exact this
  refine ⟨⟨ha, by omega⟩, relOk_iff.2 ⟨⟨hfo.1.1, hfo.1.2.1, ?_, ?_⟩, hr.low, fun t ht => ?_⟩, relOk_iff.2 ⟨⟨hfo.1.1, hfo.1.2.1, ?_, ?_⟩, hr.high, fun t ht => ?_⟩, hr.sub, hu⟩
  · rw [ha, ← hfl]; exact hfo.1.2.2.1
  · rw [ha, ← hfl]; exact hfo.1.2.2.2
  · rw [ha, Int.toNat_natCast]; exact hup t (hr.sub t ht)
  · rw [har, ha, ← hfl]; exact hfo.1.2.2.1
  · rw [har, ha, ← hfl]; exact hfo.1.2.2.2
  · rw [har, ha, Int.toNat_natCast]; exact hup t ht
theorem good_lens {s : SpecM} {at' : List Int} (hf : Fit s at') {a : List BndM} (h : Good at' s.fields a) : a.length ≤ 6 ∧ ∀ x ∈ a, x.1.2.length ≤ 1728 ∧ x.2.2.length ≤ 1728 ∧ Inc x.1.2 := by
  refine ⟨by rw [h.len]; exact hf.fs, fun x hx => ?_⟩
  obtain ⟨k, hk, rfl⟩ := List.getElem_of_mem hx
  have hk' : k < s.fields.length := by rw [← h.len]; exact hk
  have hv := good_vB hf h hk'
  unfold vB at hv
  simp only [Bool.and_eq_true] at hv
  exact ⟨relOk_len hv.2.1, relOk_len hv.2.2.1, (h.get k hk').1.low⟩
end Go.Ab
