/- Chapter 23: the checker's answers; the laws' limits. -/
import Derived.Test.YteilafbohdnekaaAmC6
import Derived.Test.YteilafbohdnekaaAbL2
set_option linter.unusedSimpArgs false
set_option linter.unusedVariables false
namespace Go.Ab
open Go Go.Proofs
open Nat (reduceAdd reduceSub)
set_option maxRecDepth 20000
set_option maxHeartbeats 8000000
theorem runC_le (e : EnM) : ∀ (l : List StepM) (s : StM), (runC e s l).2 ≤ l.length
  | [], s => by rw [runC_nil]; exact Nat.le_refl _
  | t :: l, s => by
    unfold runC
    cases stepC e s t with
    | none => exact Nat.zero_le _
    | some s' => exact Nat.succ_le_succ (runC_le e l s')
/-- the formula, the symmetries and the steps are within the limits. -/
structure InC (v : Int) (cl : List (List Int)) (syms : List (List Int)) (l : List StepM) : Prop where
  hv : 0 ≤ v ∧ v ≤ 20000
  hcl : ∀ c ∈ cl, withinM v c = true ∧ c.length ≤ 1000
  len : cl.length ≤ 1000
  hsy : syms.length ≤ 1000 ∧ ∀ c ∈ syms, c.length ≤ 1000
  hl : l.length ≤ 800 ∧ ∀ t ∈ l, t.lits.length ≤ 900
theorem InC.ok {v : Int} {cl : List (List Int)} {syms : List (List Int)} {l : List StepM} (h : InC v cl syms l) : StOk 1000 (startC v cl) := ⟨h.hv, h.hcl, h.len⟩
theorem InC.f {v : Int} {cl : List (List Int)} {syms : List (List Int)} {l : List StepM} (h : InC v cl syms l) : FOk v cl := h.ok.f (by omega)
def codeC (n m : Nat) : Int := if n < m then 220 else 0
attribute [local irreducible] AW AOps thenD inBlockD AR iterEnds roundEndsN inlEnds noGotoD canon sortL compL compZ metB imgL withinM symOk refImplM runC stepC
theorem check_fn (v : Int) (cl : List (List Int)) (syms : List (List Int)) (l : List StepM) (h : InC v cl syms l) :
    Fn Try.prog 13 [fml v cl, .pv (intss syms), .pv (steps l)] (.tup [litI ((runC ⟨v, cl, syms⟩ (startC v cl) l).2 : Nat), litI (codeC (runC ⟨v, cl, syms⟩ (startC v cl) l).2 l.length)]) := by
  have hr := run_fn v cl syms l h.ok h.hsy h.hl
  have hle := runC_le ⟨v, cl, syms⟩ l (startC v cl)
  have hl := h.hl.1
  generalize runC ⟨v, cl, syms⟩ (startC v cl) l = R at hr hle ⊢
  by_cases hlt : R.2 < l.length
  · rw [codeC, if_pos hlt]
    refine Fn.enter (n := 27) Try.func13 rfl rfl rfl rfl rfl (by decide) fun g hro_ hwt_ => ?_; (try (conv => rhs; simp only [Nf.all, Nat.reduceBEq, reduceAdd, reduceSub]))
    (refine zq ?_; refine AOps.box rfl rfl rfl rfl ?_; (conv => rhs; simp only [Nf.all, Nat.reduceBEq, reduceAdd, reduceSub]); (iterate 2 refine za ?_); refine zd ?_; refine zo ?_; refine zq ?_; (conv => rhs; simp only [Nf.all, Nat.reduceBEq, reduceAdd, reduceSub]); refine zm ?_; refine zn ?_; refine AOps.gtr rfl rfl rfl rfl rfl ?_; refine zd ?_; refine zk ?_; refine AW.skip ?_; refine thenD_n ?_; refine zo ?_; refine zq ?_; (conv => rhs; simp only [Nf.all, Nat.reduceBEq, reduceAdd, reduceSub]); refine AOps.load_ball rfl rfl rfl rfl rfl ?_; (conv => rhs; simp only [Nf.all, Nat.reduceBEq, reduceAdd, reduceSub]); (iterate 2 refine zm ?_); (with_reducible apply AOps.callp (hr)); (repeat (first | exact .nil | (refine .cons rfl ?_ ?_; (first | exact .pv _ | exact .own _ _ _ _ rfl | exact .nil _ | exact .any _ | exact .rptr _ | (refine .aggL ?_; repeat (first | exact .nil | (refine .cons ?_ ?_; (first | exact .pv _ | exact .own _ _ _ _ rfl | exact .nil _)))))))); exact rfl; refine AOps.move_tup rfl rfl rfl ?_; (iterate 2 refine AOps.extract rfl rfl rfl rfl ?_); refine AOps.assign_rptr rfl rfl rfl ?_; refine za ?_; refine zd ?_; refine zq ?_; (conv => rhs; simp only [Nf.all, Nat.reduceBEq, reduceAdd, reduceSub]); (iterate 2 refine zm ?_); refine zn ?_; refine zs ?_; refine zd ?_; refine zc ?_; refine zq ?_; (conv => rhs; simp only [Nf.all, Nat.reduceBEq, reduceAdd, reduceSub]); refine zm ?_; (iterate 2 refine za ?_); refine zd ?_; refine AW.ret ?_; refine thenD_ret ?_)
    (apply ends_ret; (exact Res.two (.tmp rfl rfl) (.tmp rfl rfl)); (refine Le.tupL ?_; refine LeL.cons ?_ ?_; refine Le.litI ?_; (rfl); refine LeL.cons ?_ ?_; refine Le.litI ?_; (rfl); exact LeL.nil))
  · rw [codeC, if_neg hlt]
    have he : R.2 = l.length := by omega
    rw [he] at hr ⊢
    refine Fn.enter (n := 27) Try.func13 rfl rfl rfl rfl rfl (by decide) fun g hro_ hwt_ => ?_; (try (conv => rhs; simp only [Nf.all, Nat.reduceBEq, reduceAdd, reduceSub]))
    (refine zq ?_; refine AOps.box rfl rfl rfl rfl ?_; (conv => rhs; simp only [Nf.all, Nat.reduceBEq, reduceAdd, reduceSub]); (iterate 2 refine za ?_); refine zd ?_; refine zo ?_; refine zq ?_; (conv => rhs; simp only [Nf.all, Nat.reduceBEq, reduceAdd, reduceSub]); refine zm ?_; refine zn ?_; refine AOps.gtr rfl rfl rfl rfl rfl ?_; refine zd ?_; refine zk ?_; refine AW.skip ?_; refine thenD_n ?_; refine zo ?_; refine zq ?_; (conv => rhs; simp only [Nf.all, Nat.reduceBEq, reduceAdd, reduceSub]); refine AOps.load_ball rfl rfl rfl rfl rfl ?_; (conv => rhs; simp only [Nf.all, Nat.reduceBEq, reduceAdd, reduceSub]); (iterate 2 refine zm ?_); (with_reducible apply AOps.callp (hr)); (repeat (first | exact .nil | (refine .cons rfl ?_ ?_; (first | exact .pv _ | exact .own _ _ _ _ rfl | exact .nil _ | exact .any _ | exact .rptr _ | (refine .aggL ?_; repeat (first | exact .nil | (refine .cons ?_ ?_; (first | exact .pv _ | exact .own _ _ _ _ rfl | exact .nil _)))))))); exact rfl; refine AOps.move_tup rfl rfl rfl ?_; (iterate 2 refine AOps.extract rfl rfl rfl rfl ?_); refine AOps.assign_rptr rfl rfl rfl ?_; refine za ?_; refine zd ?_; refine zq ?_; (conv => rhs; simp only [Nf.all, Nat.reduceBEq, reduceAdd, reduceSub]); (iterate 2 refine zm ?_); refine zn ?_; refine zs ?_; refine zd ?_; refine zk ?_; refine AW.skip ?_; refine thenD_n ?_; refine zq ?_; (conv => rhs; simp only [Nf.all, Nat.reduceBEq, reduceAdd, reduceSub]); refine zm ?_; refine zn ?_; (iterate 2 refine za ?_); refine zd ?_; refine AW.ret ?_)
    (apply ends_ret; (exact Res.two (.tmp rfl rfl) (.tmp rfl rfl)); (refine Le.tupL ?_; refine LeL.cons ?_ ?_; refine Le.litI ?_; (rfl); refine LeL.cons ?_ ?_; refine Le.litI ?_; (rfl); exact LeL.nil))
theorem refutes_fn (v : Int) (cl : List (List Int)) (syms : List (List Int)) (l : List StepM) (h : InC v cl syms l) :
    Fn Try.prog 15 [fml v cl, .pv (intss syms), .pv (steps l)] (litB (decide ((runC ⟨v, cl, syms⟩ (startC v cl) l).2 = l.length) && (runC ⟨v, cl, syms⟩ (startC v cl) l).1.ref)) := by
  have hr := run_fn v cl syms l h.ok h.hsy h.hl
  have hle := runC_le ⟨v, cl, syms⟩ l (startC v cl)
  have hl := h.hl.1
  generalize runC ⟨v, cl, syms⟩ (startC v cl) l = R at hr hle ⊢
  obtain ⟨⟨sv, scl, rf⟩, n⟩ := R
  simp only at hr hle ⊢
  by_cases he : n = l.length
  · have he' : (n : Int) = l.length := by omega
    rw [decide_eq_true he, Bool.true_and]
    refine Fn.enter (n := 29) Try.func15 rfl rfl rfl rfl rfl (by decide) fun g hro_ hwt_ => ?_; (try (conv => rhs; simp only [Nf.all, Nat.reduceBEq, reduceAdd, reduceSub]))
    (refine zq ?_; refine AOps.box rfl rfl rfl rfl ?_; (conv => rhs; simp only [Nf.all, Nat.reduceBEq, reduceAdd, reduceSub]); refine za ?_; refine zd ?_; refine zo ?_; refine zq ?_; (conv => rhs; simp only [Nf.all, Nat.reduceBEq, reduceAdd, reduceSub]); refine zm ?_; refine zn ?_; refine AOps.gtr rfl rfl rfl rfl rfl ?_; refine zd ?_; refine zk ?_; refine AW.skip ?_; refine thenD_n ?_; refine zq ?_; (conv => rhs; simp only [Nf.all, Nat.reduceBEq, reduceAdd, reduceSub]); refine AOps.load_ball rfl rfl rfl rfl rfl ?_; (conv => rhs; simp only [Nf.all, Nat.reduceBEq, reduceAdd, reduceSub]); (iterate 2 refine zm ?_); (with_reducible apply AOps.callp (hr)); (repeat (first | exact .nil | (refine .cons rfl ?_ ?_; (first | exact .pv _ | exact .own _ _ _ _ rfl | exact .nil _ | exact .any _ | exact .rptr _ | (refine .aggL ?_; repeat (first | exact .nil | (refine .cons ?_ ?_; (first | exact .pv _ | exact .own _ _ _ _ rfl | exact .nil _)))))))); exact rfl; refine AOps.move_tup rfl rfl rfl ?_; (iterate 2 refine AOps.extract rfl rfl rfl rfl ?_); refine AOps.assign_rptr rfl rfl rfl ?_; refine za ?_; refine zd ?_; refine zq ?_; (conv => rhs; simp only [Nf.all, Nat.reduceBEq, reduceAdd, reduceSub]); (iterate 2 refine zm ?_); refine zn ?_; refine AOps.eql rfl rfl rfl rfl rfl ?_; refine zm ?_; refine AOps.guardTy rfl rfl rfl rfl rfl rfl (by with_reducible assumption) ?_; refine AOps.move_rptr rfl rfl rfl ?_; refine AOps.guardTy rfl rfl rfl rfl rfl rfl (by with_reducible assumption) ?_; refine AOps.nilCheck_rptr rfl rfl rfl ?_; refine AOps.guardTy rfl rfl rfl rfl rfl rfl (by with_reducible assumption) ?_; refine AOps.fieldAddr_rN 57 4 5 1 rfl rfl rfl rfl ?_; (conv => rhs; simp only [Nf.all, Nat.reduceBEq, reduceAdd, reduceSub]); refine AOps.guardTy rfl rfl rfl rfl rfl rfl (by with_reducible assumption) ?_; refine zr ?_; refine AOps.pickT_pv rfl rfl (by with_reducible assumption) rfl rfl rfl rfl ?_; refine za ?_; refine zd ?_; refine AW.ret ?_)
    (apply ends_ret; (exact Res.one (.tmp rfl rfl)); (refine Le.litB ?_; (rfl)))
  · have he' : ¬ (n : Int) = l.length := by omega
    rw [decide_eq_false he, Bool.false_and]
    refine Fn.enter (n := 29) Try.func15 rfl rfl rfl rfl rfl (by decide) fun g hro_ hwt_ => ?_; (try (conv => rhs; simp only [Nf.all, Nat.reduceBEq, reduceAdd, reduceSub]))
    (refine zq ?_; refine AOps.box rfl rfl rfl rfl ?_; (conv => rhs; simp only [Nf.all, Nat.reduceBEq, reduceAdd, reduceSub]); refine za ?_; refine zd ?_; refine zo ?_; refine zq ?_; (conv => rhs; simp only [Nf.all, Nat.reduceBEq, reduceAdd, reduceSub]); refine zm ?_; refine zn ?_; refine AOps.gtr rfl rfl rfl rfl rfl ?_; refine zd ?_; refine zk ?_; refine AW.skip ?_; refine thenD_n ?_; refine zq ?_; (conv => rhs; simp only [Nf.all, Nat.reduceBEq, reduceAdd, reduceSub]); refine AOps.load_ball rfl rfl rfl rfl rfl ?_; (conv => rhs; simp only [Nf.all, Nat.reduceBEq, reduceAdd, reduceSub]); (iterate 2 refine zm ?_); (with_reducible apply AOps.callp (hr)); (repeat (first | exact .nil | (refine .cons rfl ?_ ?_; (first | exact .pv _ | exact .own _ _ _ _ rfl | exact .nil _ | exact .any _ | exact .rptr _ | (refine .aggL ?_; repeat (first | exact .nil | (refine .cons ?_ ?_; (first | exact .pv _ | exact .own _ _ _ _ rfl | exact .nil _)))))))); exact rfl; refine AOps.move_tup rfl rfl rfl ?_; (iterate 2 refine AOps.extract rfl rfl rfl rfl ?_); refine AOps.assign_rptr rfl rfl rfl ?_; refine za ?_; refine zd ?_; refine zq ?_; (conv => rhs; simp only [Nf.all, Nat.reduceBEq, reduceAdd, reduceSub]); (iterate 2 refine zm ?_); refine zn ?_; refine AOps.eql rfl rfl rfl rfl rfl ?_; refine zm ?_; (iterate 4 refine AOps.guardTn rfl rfl rfl rfl rfl rfl (by with_reducible assumption) ?_); refine AOps.pickF_pv rfl rfl (by with_reducible assumption) rfl rfl rfl rfl ?_; refine za ?_; refine zd ?_; refine AW.ret ?_)
    (apply ends_ret; (exact Res.one (.tmp rfl rfl)); (refine Le.litB ?_; (rfl)))
/-- a small formula: the laws' test. -/
def smallC (v : Int) (cl : List (List Int)) : Bool := decide (v ≤ 8) && decide (cl.length ≤ 40) && cl.all (fun c => decide (c.length ≤ 12)) && validM v cl
def fewC (s : List (List Int)) (l : List StepM) : Bool := decide (s.length ≤ 6) && decide (l.length ≤ 40) && s.all (fun c => decide (c.length ≤ 12)) && l.all (fun t => decide (t.lits.length ≤ 12))
theorem smallC_fn (v : Int) (cl : List (List Int)) : Fn Try.prog 11 [fml v cl] (litB (smallC v cl)) := by
  have hva := valid_fn v cl
  by_cases h1 : v ≤ 8
  · by_cases h2 : cl.length ≤ 40
    · have e1 : smallC v cl = (cl.all (fun c => decide (c.length ≤ 12)) && validM v cl) := by unfold smallC; rw [decide_eq_true h1, decide_eq_true h2]; rfl
      rw [e1]
      refine Fn.enter (n := 29) Try.func11 rfl rfl rfl rfl rfl (by decide) fun g hro_ hwt_ => ?_; (try (conv => rhs; simp only [Nf.all, Nat.reduceBEq, reduceAdd, reduceSub]))
      (refine zq ?_; refine AOps.box rfl rfl rfl rfl ?_; (conv => rhs; simp only [Nf.all, Nat.reduceBEq, reduceAdd, reduceSub]); refine za ?_; refine zd ?_; refine zo ?_; refine zq ?_; (conv => rhs; simp only [Nf.all, Nat.reduceBEq, reduceAdd, reduceSub]); refine AOps.fieldAddrN 24 0 0 rfl rfl rfl rfl ?_; refine zb ?_; refine AOps.gtr rfl rfl rfl rfl rfl ?_; refine zm ?_; refine zy ?_; refine AOps.fieldAddrN 24 1 1 rfl rfl rfl rfl ?_; refine zy ?_; refine zb ?_; refine zy ?_; refine zn ?_; refine zy ?_; refine AOps.gtr rfl rfl rfl rfl rfl ?_; refine AOps.pickF_pv rfl rfl (by first | omega | decide) rfl rfl rfl rfl ?_; refine zd ?_; refine zk ?_; refine AW.skip ?_; refine thenD_n ?_; refine zo ?_; refine zq ?_; (conv => rhs; simp only [Nf.all, Nat.reduceBEq, reduceAdd, reduceSub]); refine za ?_; refine zd ?_; refine AW.block ?_)
      ((conv => rhs; simp only [Nf.all, Nat.reduceBEq, reduceAdd, reduceSub]); apply AW.loopR [1] [0] (fun i : Nat => ([(3, litI i)] : List (Nat × AV))) (fun i : Nat => ([] : List (Nat × Option Ob))) (fun i : Nat => i ≤ cl.length ∧ (cl.take i).all (fun c => decide (c.length ≤ 12)) = true) (fun i : Nat => cl.length - i) (0); (conv => lhs; simp only [Nf.lpR, Nf.all, Nat.reduceBEq, reduceAdd, reduceSub]); (all_goals skip))
      · exact ⟨Nat.zero_le _, rfl⟩
      · exact weak rfl (by (refine ⟨.eq rfl rfl, ?_⟩; refine ⟨.eq rfl rfl, ?_⟩; exact trivial)) (by (refine ⟨.box _ rfl ?_, ?_⟩; (iterate 2 refine ⟨.eq rfl rfl, ?_⟩); (iterate 2 exact trivial))) rfl
      rintro i ⟨hi, hal⟩
      by_cases hlt : i < cl.length
      · have has := all_snoc (p := fun c : List Int => decide (c.length ≤ 12)) hlt
        rw [hal, Bool.true_and] at has
        by_cases hc : cl[i].length ≤ 12
        · rw [decide_eq_true hc] at has
          (refine zo ?_; refine zq ?_; refine zm ?_; refine AOps.fieldAddrN 24 1 1 rfl rfl rfl rfl ?_; refine zb ?_; refine zn ?_; refine zs ?_; refine zd ?_; refine zc ?_; refine AW.skip ?_; refine thenD_n ?_; refine zo ?_; refine AW.block ?_; refine zq ?_; (conv => rhs; simp only [Nf.all, Nat.reduceBEq, reduceAdd, reduceSub]); refine AOps.fieldAddrN 24 1 1 rfl rfl rfl rfl ?_; refine zb ?_; refine zm ?_; (focus ((with_reducible apply AOps.index_map); (iterate 7 exact rfl); rotate_left; omega)); refine zr ?_; refine zn ?_; refine AOps.gtr rfl rfl rfl rfl rfl ?_; refine zd ?_; refine zk ?_; refine AW.skip ?_; refine inBlockD_n ?_; refine thenD_n ?_; refine AW.region ?_; (conv => rhs; simp only [Nf.all, Nat.reduceBEq, reduceAdd, reduceSub]); refine zm ?_; refine AOps.add rfl rfl rfl rfl rfl (by omega) ?_; refine za ?_; refine zd ?_)
          exact ⟨i + 1, ⟨by omega, has⟩, by omega, weak rfl (by (refine ⟨.eq rfl rfl, ?_⟩; refine ⟨.eq rfl rfl, ?_⟩; exact trivial)) (by (refine ⟨.box _ rfl ?_, ?_⟩; (iterate 2 refine ⟨.eq rfl rfl, ?_⟩); (iterate 2 exact trivial))) rfl⟩
        · rw [all_no (p := fun c : List Int => decide (c.length ≤ 12)) hlt (decide_eq_false hc), Bool.false_and]
          (refine zo ?_; refine zq ?_; refine zm ?_; refine AOps.fieldAddrN 24 1 1 rfl rfl rfl rfl ?_; refine zb ?_; refine zn ?_; refine zs ?_; refine zd ?_; refine zc ?_; refine AW.skip ?_; refine thenD_n ?_; refine zo ?_; refine AW.block ?_; refine zq ?_; (conv => rhs; simp only [Nf.all, Nat.reduceBEq, reduceAdd, reduceSub]); refine AOps.fieldAddrN 24 1 1 rfl rfl rfl rfl ?_; refine zb ?_; refine zm ?_; (focus ((with_reducible apply AOps.index_map); (iterate 7 exact rfl); rotate_left; omega)); refine zr ?_; refine zn ?_; refine AOps.gtr rfl rfl rfl rfl rfl ?_; refine zd ?_; refine zc ?_; refine zq ?_; (conv => rhs; simp only [Nf.all, Nat.reduceBEq, reduceAdd, reduceSub]); refine za ?_; refine zd ?_; refine AW.ret ?_; refine inBlockD_ret ?_; (iterate 2 refine thenD_ret ?_); refine inBlockD_ret ?_; refine thenD_ret ?_)
          (apply ends_ret; (exact Res.one (.tmp rfl rfl)); (refine Le.litB ?_; (rfl)))
      · rw [take_all (l := cl) (by omega)] at hal
        rw [hal, Bool.true_and]
        (refine zo ?_; refine zq ?_; refine zm ?_; refine AOps.fieldAddrN 24 1 1 rfl rfl rfl rfl ?_; refine zb ?_; refine zn ?_; refine zs ?_; refine zd ?_; refine zk ?_; refine AW.exit ?_; (iterate 2 refine thenD_exit ?_); refine inBlockD_exit ?_; refine thenD_n ?_; refine zq ?_; (conv => rhs; simp only [Nf.all, Nat.reduceBEq, reduceAdd, reduceSub]); refine AOps.load_ball rfl rfl rfl rfl rfl ?_; (conv => rhs; simp only [Nf.all, Nat.reduceBEq, reduceAdd, reduceSub]); (with_reducible apply AOps.call (hva)); (repeat (first | exact .nil | (refine .cons rfl ?_ ?_; (first | exact .pv _ | exact .own _ _ _ _ rfl | exact .nil _ | exact .any _ | exact .rptr _ | (refine .aggL ?_; repeat (first | exact .nil | (refine .cons ?_ ?_; (first | exact .pv _ | exact .own _ _ _ _ rfl | exact .nil _)))))))); exact rfl; exact rfl; exact (fun h_ => by cases h_); refine za ?_; refine zd ?_; refine AW.ret ?_)
        (apply ends_ret; (exact Res.one (.tmp rfl rfl)); (refine Le.litB ?_; (rfl)))
    · have e1 : smallC v cl = false := by unfold smallC; rw [decide_eq_false h2]; simp
      rw [e1]
      refine Fn.enter (n := 29) Try.func11 rfl rfl rfl rfl rfl (by decide) fun g hro_ hwt_ => ?_; (try (conv => rhs; simp only [Nf.all, Nat.reduceBEq, reduceAdd, reduceSub]))
      (refine zq ?_; refine AOps.box rfl rfl rfl rfl ?_; (conv => rhs; simp only [Nf.all, Nat.reduceBEq, reduceAdd, reduceSub]); refine za ?_; refine zd ?_; refine zo ?_; refine zq ?_; (conv => rhs; simp only [Nf.all, Nat.reduceBEq, reduceAdd, reduceSub]); refine AOps.fieldAddrN 24 0 0 rfl rfl rfl rfl ?_; refine zb ?_; refine AOps.gtr rfl rfl rfl rfl rfl ?_; refine zm ?_; refine zy ?_; refine AOps.fieldAddrN 24 1 1 rfl rfl rfl rfl ?_; refine zy ?_; refine zb ?_; refine zy ?_; refine zn ?_; refine zy ?_; refine AOps.gtr rfl rfl rfl rfl rfl ?_; refine AOps.pickF_pv rfl rfl (by first | omega | decide) rfl rfl rfl rfl ?_; refine zd ?_; refine zc ?_; refine zq ?_; (conv => rhs; simp only [Nf.all, Nat.reduceBEq, reduceAdd, reduceSub]); refine za ?_; refine zd ?_; refine AW.ret ?_; refine thenD_ret ?_)
      (apply ends_ret; (exact Res.one (.tmp rfl rfl)); (refine Le.litB ?_; (rfl)))
  · have e1 : smallC v cl = false := by unfold smallC; rw [decide_eq_false h1]; simp
    rw [e1]
    refine Fn.enter (n := 29) Try.func11 rfl rfl rfl rfl rfl (by decide) fun g hro_ hwt_ => ?_; (try (conv => rhs; simp only [Nf.all, Nat.reduceBEq, reduceAdd, reduceSub]))
    (refine zq ?_; refine AOps.box rfl rfl rfl rfl ?_; (conv => rhs; simp only [Nf.all, Nat.reduceBEq, reduceAdd, reduceSub]); refine za ?_; refine zd ?_; refine zo ?_; refine zq ?_; (conv => rhs; simp only [Nf.all, Nat.reduceBEq, reduceAdd, reduceSub]); refine AOps.fieldAddrN 24 0 0 rfl rfl rfl rfl ?_; refine zb ?_; refine AOps.gtr rfl rfl rfl rfl rfl ?_; refine zm ?_; (iterate 4 refine AOps.guardFn rfl rfl rfl rfl rfl rfl (by first | omega | decide) ?_); refine AOps.pickT_pv rfl rfl (by first | omega | decide) rfl rfl rfl rfl ?_; refine zd ?_; refine AW.cond_lt rfl rfl ?_; refine zq ?_; (conv => rhs; simp only [Nf.all, Nat.reduceBEq, reduceAdd, reduceSub]); refine za ?_; refine zd ?_; refine AW.ret ?_; refine thenD_ret ?_)
    (apply ends_ret; (exact Res.one (.tmp rfl rfl)); (refine Le.litB ?_; (rfl)))
theorem fewC_fn (s : List (List Int)) (l : List StepM) : Fn Try.prog 12 [.pv (intss s), .pv (steps l)] (litB (fewC s l)) := by
  by_cases h1 : s.length ≤ 6
  · by_cases h2 : l.length ≤ 40
    · have e1 : fewC s l = (s.all (fun c => decide (c.length ≤ 12)) && l.all (fun t => decide (t.lits.length ≤ 12))) := by unfold fewC; rw [decide_eq_true h1, decide_eq_true h2]; rfl
      rw [e1]
      refine Fn.enter (n := 40) Try.func12 rfl rfl rfl rfl rfl (by decide) fun g hro_ hwt_ => ?_; (try (conv => rhs; simp only [Nf.all, Nat.reduceBEq, reduceAdd, reduceSub]))
      (refine zq ?_; refine za ?_; refine zd ?_; refine zo ?_; refine zq ?_; (conv => rhs; simp only [Nf.all, Nat.reduceBEq, reduceAdd, reduceSub]); refine zm ?_; refine zn ?_; refine AOps.gtr rfl rfl rfl rfl rfl ?_; refine zm ?_; refine zy ?_; refine zm ?_; refine zy ?_; refine zn ?_; refine zy ?_; refine AOps.gtr rfl rfl rfl rfl rfl ?_; refine AOps.pickF_pv rfl rfl (by first | omega | decide) rfl rfl rfl rfl ?_; refine zd ?_; refine zk ?_; refine AW.skip ?_; refine thenD_n ?_; refine zo ?_; refine zq ?_; (conv => rhs; simp only [Nf.all, Nat.reduceBEq, reduceAdd, reduceSub]); refine za ?_; refine zd ?_; refine AW.block ?_)
      ((conv => rhs; simp only [Nf.all, Nat.reduceBEq, reduceAdd, reduceSub]); apply AW.loopR [0, 1] [] (fun i : Nat => ([(5, litI i)] : List (Nat × AV))) (fun i : Nat => ([] : List (Nat × Option Ob))) (fun i : Nat => i ≤ s.length ∧ (s.take i).all (fun c => decide (c.length ≤ 12)) = true) (fun i : Nat => s.length - i) (0); (conv => lhs; simp only [Nf.lpR, Nf.all, Nat.reduceBEq, reduceAdd, reduceSub]); (all_goals skip))
      · exact ⟨Nat.zero_le _, rfl⟩
      · exact weak rfl (by (first | (refine ⟨.eq rfl rfl, ?_⟩; (iterate 2 refine ⟨.eq rfl rfl, ?_⟩); exact trivial) | (refine ⟨.eq rfl rfl, ?_⟩; refine ⟨.eq rfl rfl, ?_⟩; exact trivial))) (by (exact trivial)) rfl
      rintro i ⟨hi, hal⟩
      by_cases hlt : i < s.length
      · have has := all_snoc (p := fun c : List Int => decide (c.length ≤ 12)) hlt
        rw [hal, Bool.true_and] at has
        by_cases hc : s[i].length ≤ 12
        · rw [decide_eq_true hc] at has
          (refine zo ?_; refine zq ?_; (iterate 2 refine zm ?_); refine zn ?_; refine zs ?_; refine zd ?_; refine zc ?_; refine AW.skip ?_; refine thenD_n ?_; refine zo ?_; refine AW.block ?_; refine zq ?_; (conv => rhs; simp only [Nf.all, Nat.reduceBEq, reduceAdd, reduceSub]); (iterate 2 refine zm ?_); (focus ((with_reducible apply AOps.index_map); (iterate 7 exact rfl); rotate_left; omega)); refine zr ?_; refine zn ?_; refine AOps.gtr rfl rfl rfl rfl rfl ?_; refine zd ?_; refine zk ?_; refine AW.skip ?_; refine inBlockD_n ?_; refine thenD_n ?_; refine AW.region ?_; (conv => rhs; simp only [Nf.all, Nat.reduceBEq, reduceAdd, reduceSub]); refine zm ?_; refine AOps.add rfl rfl rfl rfl rfl (by omega) ?_; refine za ?_; refine zd ?_)
          exact ⟨i + 1, ⟨by omega, has⟩, by omega, weak rfl (by (first | (refine ⟨.eq rfl rfl, ?_⟩; (iterate 2 refine ⟨.eq rfl rfl, ?_⟩); exact trivial) | (refine ⟨.eq rfl rfl, ?_⟩; refine ⟨.eq rfl rfl, ?_⟩; exact trivial))) (by (exact trivial)) rfl⟩
        · rw [all_no (p := fun c : List Int => decide (c.length ≤ 12)) hlt (decide_eq_false hc), Bool.false_and]
          (refine zo ?_; refine zq ?_; (iterate 2 refine zm ?_); refine zn ?_; refine zs ?_; refine zd ?_; refine zc ?_; refine AW.skip ?_; refine thenD_n ?_; refine zo ?_; refine AW.block ?_; refine zq ?_; (conv => rhs; simp only [Nf.all, Nat.reduceBEq, reduceAdd, reduceSub]); (iterate 2 refine zm ?_); (focus ((with_reducible apply AOps.index_map); (iterate 7 exact rfl); rotate_left; omega)); refine zr ?_; refine zn ?_; refine AOps.gtr rfl rfl rfl rfl rfl ?_; refine zd ?_; refine zc ?_; refine zq ?_; (conv => rhs; simp only [Nf.all, Nat.reduceBEq, reduceAdd, reduceSub]); refine za ?_; refine zd ?_; refine AW.ret ?_; refine inBlockD_ret ?_; (iterate 2 refine thenD_ret ?_); refine inBlockD_ret ?_; refine thenD_ret ?_)
          (apply ends_ret; (exact Res.one (.tmp rfl rfl)); (refine Le.litB ?_; (rfl)))
      · rw [take_all (l := s) (by omega)] at hal
        rw [hal, Bool.true_and]
        (refine zo ?_; refine zq ?_; (iterate 2 refine zm ?_); refine zn ?_; refine zs ?_; refine zd ?_; refine zk ?_; refine AW.exit ?_; (iterate 2 refine thenD_exit ?_); refine inBlockD_exit ?_; refine thenD_n ?_; refine zo ?_; refine zq ?_; (conv => rhs; simp only [Nf.all, Nat.reduceBEq, reduceAdd, reduceSub]); refine za ?_; refine zd ?_; refine AW.block ?_)
        ((conv => rhs; simp only [Nf.all, Nat.reduceBEq, reduceAdd, reduceSub]); apply AW.loopR [1] [] (fun i : Nat => ([(6, litI i)] : List (Nat × AV))) (fun i : Nat => ([] : List (Nat × Option Ob))) (fun i : Nat => i ≤ l.length ∧ (l.take i).all (fun t => decide (t.lits.length ≤ 12)) = true) (fun i : Nat => l.length - i) (0); (conv => lhs; simp only [Nf.lpR, Nf.all, Nat.reduceBEq, reduceAdd, reduceSub]); (all_goals skip))
        · exact ⟨Nat.zero_le _, rfl⟩
        · exact weak rfl (by (first | (refine ⟨.eq rfl rfl, ?_⟩; (iterate 2 refine ⟨.eq rfl rfl, ?_⟩); exact trivial) | (refine ⟨.eq rfl rfl, ?_⟩; refine ⟨.eq rfl rfl, ?_⟩; exact trivial))) (by (exact trivial)) rfl
        rintro i ⟨hi, hal⟩
        by_cases hlt : i < l.length
        · have has := all_snoc (p := fun t : StepM => decide (t.lits.length ≤ 12)) hlt
          rw [hal, Bool.true_and] at has
          by_cases hc : l[i].lits.length ≤ 12
          · rw [decide_eq_true hc] at has
            (refine zo ?_; refine zq ?_; (iterate 2 refine zm ?_); refine zn ?_; refine zs ?_; refine zd ?_; refine zc ?_; refine AW.skip ?_; refine thenD_n ?_; refine zo ?_; refine AW.block ?_; refine zq ?_; (conv => rhs; simp only [Nf.all, Nat.reduceBEq, reduceAdd, reduceSub]); (iterate 2 refine zm ?_); (focus ((with_reducible apply AOps.index_map); (iterate 7 exact rfl); rotate_left; omega)); refine AOps.fieldAddr_rN 46 1 1 1 rfl rfl rfl rfl ?_; (conv => rhs; simp only [Nf.all, Nat.reduceBEq, reduceAdd, reduceSub]); refine zr ?_; refine zn ?_; refine AOps.gtr rfl rfl rfl rfl rfl ?_; refine zd ?_; refine zk ?_; refine AW.skip ?_; refine inBlockD_n ?_; refine thenD_n ?_; refine AW.region ?_; (conv => rhs; simp only [Nf.all, Nat.reduceBEq, reduceAdd, reduceSub]); refine zm ?_; refine AOps.add rfl rfl rfl rfl rfl (by omega) ?_; refine za ?_; refine zd ?_)
            exact ⟨i + 1, ⟨by omega, has⟩, by omega, weak rfl (by (first | (refine ⟨.eq rfl rfl, ?_⟩; (iterate 2 refine ⟨.eq rfl rfl, ?_⟩); exact trivial) | (refine ⟨.eq rfl rfl, ?_⟩; refine ⟨.eq rfl rfl, ?_⟩; exact trivial))) (by (exact trivial)) rfl⟩
          · rw [all_no (p := fun t : StepM => decide (t.lits.length ≤ 12)) hlt (decide_eq_false hc)]
            (refine zo ?_; refine zq ?_; (iterate 2 refine zm ?_); refine zn ?_; refine zs ?_; refine zd ?_; refine zc ?_; refine AW.skip ?_; refine thenD_n ?_; refine zo ?_; refine AW.block ?_; refine zq ?_; (conv => rhs; simp only [Nf.all, Nat.reduceBEq, reduceAdd, reduceSub]); (iterate 2 refine zm ?_); (focus ((with_reducible apply AOps.index_map); (iterate 7 exact rfl); rotate_left; omega)); refine AOps.fieldAddr_rN 46 1 1 1 rfl rfl rfl rfl ?_; (conv => rhs; simp only [Nf.all, Nat.reduceBEq, reduceAdd, reduceSub]); refine zr ?_; refine zn ?_; refine AOps.gtr rfl rfl rfl rfl rfl ?_; refine zd ?_; refine zc ?_; refine zq ?_; (conv => rhs; simp only [Nf.all, Nat.reduceBEq, reduceAdd, reduceSub]); refine za ?_; refine zd ?_; refine AW.ret ?_; refine inBlockD_ret ?_; (iterate 2 refine thenD_ret ?_); refine inBlockD_ret ?_; refine thenD_ret ?_)
            (apply ends_ret; (exact Res.one (.tmp rfl rfl)); (refine Le.litB ?_; (rfl)))
        · rw [take_all (l := l) (by omega)] at hal
          rw [hal]
          (refine zo ?_; refine zq ?_; (iterate 2 refine zm ?_); refine zn ?_; refine zs ?_; refine zd ?_; refine zk ?_; refine AW.exit ?_; (iterate 2 refine thenD_exit ?_); refine inBlockD_exit ?_; refine thenD_n ?_; refine zq ?_; (conv => rhs; simp only [Nf.all, Nat.reduceBEq, reduceAdd, reduceSub]); refine za ?_; refine zd ?_; refine AW.ret ?_)
          (apply ends_ret; (exact Res.one (.tmp rfl rfl)); (refine Le.litB ?_; (rfl)))
    · have e1 : fewC s l = false := by unfold fewC; rw [decide_eq_false h2]; simp
      rw [e1]
      refine Fn.enter (n := 40) Try.func12 rfl rfl rfl rfl rfl (by decide) fun g hro_ hwt_ => ?_; (try (conv => rhs; simp only [Nf.all, Nat.reduceBEq, reduceAdd, reduceSub]))
      (refine zq ?_; refine za ?_; refine zd ?_; refine zo ?_; refine zq ?_; (conv => rhs; simp only [Nf.all, Nat.reduceBEq, reduceAdd, reduceSub]); refine zm ?_; refine zn ?_; refine AOps.gtr rfl rfl rfl rfl rfl ?_; refine zm ?_; refine zy ?_; refine zm ?_; refine zy ?_; refine zn ?_; refine zy ?_; refine AOps.gtr rfl rfl rfl rfl rfl ?_; refine AOps.pickF_pv rfl rfl (by first | omega | decide) rfl rfl rfl rfl ?_; refine zd ?_; refine zc ?_; refine zq ?_; (conv => rhs; simp only [Nf.all, Nat.reduceBEq, reduceAdd, reduceSub]); refine za ?_; refine zd ?_; refine AW.ret ?_; refine thenD_ret ?_)
      (apply ends_ret; (exact Res.one (.tmp rfl rfl)); (refine Le.litB ?_; (rfl)))
  · have e1 : fewC s l = false := by unfold fewC; rw [decide_eq_false h1]; simp
    rw [e1]
    refine Fn.enter (n := 40) Try.func12 rfl rfl rfl rfl rfl (by decide) fun g hro_ hwt_ => ?_; (try (conv => rhs; simp only [Nf.all, Nat.reduceBEq, reduceAdd, reduceSub]))
    (refine zq ?_; refine za ?_; refine zd ?_; refine zo ?_; refine zq ?_; (conv => rhs; simp only [Nf.all, Nat.reduceBEq, reduceAdd, reduceSub]); refine zm ?_; refine zn ?_; refine AOps.gtr rfl rfl rfl rfl rfl ?_; refine zm ?_; (iterate 3 refine AOps.guardFn rfl rfl rfl rfl rfl rfl (by first | omega | decide) ?_); refine AOps.pickT_pv rfl rfl (by first | omega | decide) rfl rfl rfl rfl ?_; refine zd ?_; refine AW.cond_lt rfl rfl ?_; refine zq ?_; (conv => rhs; simp only [Nf.all, Nat.reduceBEq, reduceAdd, reduceSub]); refine za ?_; refine zd ?_; refine AW.ret ?_; refine thenD_ret ?_)
    (apply ends_ret; (exact Res.one (.tmp rfl rfl)); (refine Le.litB ?_; (rfl)))
theorem small_in {v : Int} {cl : List (List Int)} {s : List (List Int)} {l : List StepM} (h1 : smallC v cl = true) (h2 : fewC s l = true) : InC v cl s l := by
  unfold smallC validM at h1
  unfold fewC at h2
  simp only [Bool.and_eq_true, decide_eq_true_eq, List.all_eq_true] at h1 h2
  obtain ⟨⟨⟨a1, a2⟩, a3⟩, a4, a5⟩ := h1
  obtain ⟨⟨⟨b1, b2⟩, b3⟩, b4⟩ := h2
  exact ⟨⟨a4.1, a4.2.1⟩, fun c hc => ⟨a5 c hc, by have := a3 c hc; omega⟩, by omega, ⟨by omega, fun c hc => by have := b3 c hc; omega⟩, ⟨by omega, fun t ht => by have := b4 t ht; omega⟩⟩
end Go.Ab
