/- Chapter 24: the program's circuits: negation, inputs, conjunctions, walked. -/
import Derived.Test.YtcklfjkaadfjjaaAoD3
import Derived.Test.YtcklfjkaadfjjaaAbL2
import Derived.Test.YtcklfjkaadfjjaaAbL3
import Derived.Test.YtcklfjkaadfjjaaAoB2
set_option linter.unusedSimpArgs false
set_option linter.unusedVariables false
namespace Go.Ab
open Go Go.Proofs
set_option maxRecDepth 20000
set_option maxHeartbeats 4000000
attribute [local irreducible] AW AOps thenD inBlockD AR iterEnds roundEndsN inlEnds noGotoD findG EndsX
theorem pNot_fn (r : Int) (h : -1000000 ≤ r ∧ r ≤ 1000000) : Fn Try.prog 57 [litI r] (litI (notR r)) := by
  unfold notR
  by_cases h0 : r < 0
  · rw [if_pos h0]
    refine Fn.enter (n := 7) Try.func57 rfl rfl rfl rfl rfl (by decide) fun g hro_ hwt_ => ?_; (try refine nz ?_)
    (refine zq ?_; refine za ?_; refine zd ?_; refine zo ?_; refine zq ?_; refine nz ?_; refine zm ?_; refine zs ?_; refine zd ?_; refine AW.condY rfl rfl (by with_reducible assumption) ?_; refine zq ?_; refine nz ?_; refine za ?_; refine zd ?_; refine AW.ret ?_; refine thenD_ret ?_)
    (apply ends_ret; (exact Res.one (.tmp rfl rfl)); (refine Le.litI ?_; (rfl)))
  · rw [if_neg h0]
    show Fn Try.prog 57 [litI r] (litI (bit1 r))
    refine Fn.enter (n := 7) Try.func57 rfl rfl rfl rfl rfl (by decide) fun g hro_ hwt_ => ?_; (try refine nz ?_)
    (refine zq ?_; refine za ?_; refine zd ?_; refine zo ?_; refine zq ?_; refine nz ?_; refine zm ?_; refine zs ?_; refine zd ?_; refine AW.condN rfl rfl (by with_reducible assumption) ?_; refine AW.skip ?_; refine thenD_n ?_; refine zq ?_; refine nz ?_; refine zm ?_; refine AOps.xor1 rfl rfl rfl rfl rfl (by omega) ?_; refine za ?_; refine zd ?_; refine AW.ret ?_)
    (apply ends_ret; (exact Res.one (.tmp rfl rfl)); (refine Le.litI ?_; (rfl)))
theorem pInput_fn (gs : List GateM) (v : Int) (hl : gs.length ≤ 1000000) (hne : 0 < gs.length) : Fn Try.prog 80 [crc gs, litI v] (.tup [crc (inputG gs v).1, litI (inputG gs v).2]) := by
  have hs := pShare_fn gs ⟨1, v, 0⟩ hl hne
  unfold inputG
  refine Fn.enter (n := 19) Try.func80 rfl rfl rfl rfl rfl (by decide) fun g hro_ hwt_ => ?_; (try refine nz ?_)
  by_cases h0 : v < 1 ∨ 20000 < v
  · rw [if_pos h0]
    (refine zq ?_; refine AOps.box rfl rfl rfl rfl ?_; refine nz ?_; refine AOps.allocN' rfl rfl rfl rfl ?_; refine nz ?_; refine za ?_; refine zd ?_; refine zo ?_; refine zq ?_; refine nz ?_; refine zm ?_; refine zs ?_; refine zm ?_; (focus ((with_reducible apply AOps.guardF); (iterate 6 exact rfl); all_goals intro hc_)); refine zm ?_; refine AOps.guardFy rfl rfl rfl rfl rfl rfl (by with_reducible assumption) ?_; refine AOps.gtr rfl rfl rfl rfl rfl ?_; refine AOps.pickF_pv rfl rfl (by with_reducible assumption) rfl rfl rfl rfl ?_; refine zd ?_; refine zc ?_; refine zq ?_; refine nz ?_; refine AOps.load_ball rfl rfl rfl rfl rfl ?_; refine nz ?_; refine AOps.store_bn rfl rfl rfl rfl rfl rfl rfl rfl rfl (by with_reducible assumption) ?_; refine nz ?_; refine za ?_; refine zd ?_; refine AW.ret ?_; refine thenD_ret ?_; (all_goals skip); rotate_left; refine AOps.guardFn rfl rfl rfl rfl rfl rfl (by with_reducible assumption) ?_; refine AOps.pickT_pv rfl rfl (by with_reducible assumption) rfl rfl rfl rfl ?_; refine zd ?_; refine AW.cond_lt rfl rfl ?_; refine zq ?_; refine nz ?_; refine AOps.load_ball rfl rfl rfl rfl rfl ?_; refine nz ?_; refine AOps.store_bn rfl rfl rfl rfl rfl rfl rfl rfl rfl (by with_reducible assumption) ?_; refine nz ?_; refine za ?_; refine zd ?_; refine AW.ret ?_; refine thenD_ret ?_; (all_goals skip); rotate_left)
    all_goals (apply ends_ret; (exact Res.two (.cell rfl rfl rfl rfl) (.tmp rfl rfl)); (refine Le.tupL ?_; refine LeL.cons ?_ ?_; refine Le.aggL ?_; refine LeL.cons ?_ ?_; (with_reducible exact Le.pv _); exact LeL.nil; refine LeL.cons ?_ ?_; refine Le.litI ?_; (rfl); exact LeL.nil))
  · rw [if_neg h0]
    have h1 : ¬ v < 1 := by omega
    have h2 : ¬ 20000 < v := by omega
    (refine zq ?_; refine AOps.box rfl rfl rfl rfl ?_; refine nz ?_; refine AOps.allocN' rfl rfl rfl rfl ?_; refine nz ?_; refine za ?_; refine zd ?_; refine zo ?_; refine zq ?_; refine nz ?_; refine zm ?_; refine zs ?_; refine zm ?_; refine AOps.guardFy rfl rfl rfl rfl rfl rfl (by with_reducible assumption) ?_; refine zm ?_; refine AOps.guardFy rfl rfl rfl rfl rfl rfl (by with_reducible assumption) ?_; refine AOps.gtr rfl rfl rfl rfl rfl ?_; refine AOps.pickF_pv rfl rfl (by with_reducible assumption) rfl rfl rfl rfl ?_; refine zd ?_; refine AW.condN rfl rfl (by with_reducible assumption) ?_; refine AW.skip ?_; refine thenD_n ?_; refine zq ?_; refine nz ?_; refine AOps.load_ball rfl rfl rfl rfl rfl ?_; refine nz ?_; refine zm ?_; refine AOps.buildN 82 [0, 1] rfl rfl rfl rfl rfl rfl rfl rfl rfl ?_; refine nz ?_; (with_reducible apply AOps.callp (hs)); (repeat (first | exact .nil | (refine .cons rfl ?_ ?_; (first | exact .pv _ | exact .own _ _ _ _ rfl | exact .nil _ | exact .any _ | exact .rptr _ | (refine .aggL ?_; repeat (first | exact .nil | (refine .cons ?_ ?_; (first | exact .pv _ | exact .own _ _ _ _ rfl | exact .nil _)))))))); exact rfl; (iterate 2 refine AOps.extract rfl rfl rfl rfl ?_); refine AOps.store_bn rfl rfl rfl rfl rfl rfl rfl rfl rfl (by with_reducible assumption) ?_; refine nz ?_; refine za ?_; refine zd ?_; refine AW.ret ?_)
    (apply ends_ret; (exact Res.two (.cell rfl rfl rfl rfl) (.tmp rfl rfl)); (refine Le.tupL ?_; refine LeL.cons ?_ ?_; refine Le.aggL ?_; refine LeL.cons ?_ ?_; (with_reducible exact Le.pv _); exact LeL.nil; refine LeL.cons ?_ ?_; refine Le.litI ?_; (rfl); exact LeL.nil))
theorem andV_fn (gs : List GateM) (r : Int) (hl : gs.length ≤ 1000000) : Fn Try.prog 101 [litI r, .rptr [.slice 3 (gs.map encG)]] (litB (decide (0 ≤ r ∧ r < 2 * (gs.length : Int)))) := by
  by_cases h : 0 ≤ r ∧ r < 2 * (gs.length : Int)
  · rw [decide_eq_true h]
    obtain ⟨h1, h2⟩ := h
    have e2 := decide_eq_true h2
    refine Fn.enter (n := 14) Try.func101 rfl rfl rfl rfl rfl (by decide) fun g hro_ hwt_ => ?_; (try refine nz ?_)
    (refine zq ?_; refine za ?_; refine zd ?_; refine zq ?_; refine nz ?_; refine zm ?_; refine AOps.geq rfl rfl rfl rfl rfl ?_; refine zm ?_; refine AOps.guardTy rfl rfl rfl rfl rfl rfl (by with_reducible assumption) ?_; refine zm ?_; refine AOps.guardTy rfl rfl rfl rfl rfl rfl (by with_reducible assumption) ?_; refine AOps.fieldAddr_rN 31 0 0 1 rfl rfl rfl rfl ?_; refine nz ?_; refine AOps.guardTy rfl rfl rfl rfl rfl rfl (by with_reducible assumption) ?_; refine zr ?_; refine AOps.guardTy rfl rfl rfl rfl rfl rfl (by with_reducible assumption) ?_; refine zn ?_; refine AOps.guardTy rfl rfl rfl rfl rfl rfl (by with_reducible assumption) ?_; refine AOps.mul rfl rfl rfl rfl rfl (by omega) ?_; refine AOps.guardTy rfl rfl rfl rfl rfl rfl (by with_reducible assumption) ?_; refine zs ?_; refine AOps.pickT_pv rfl rfl (by with_reducible assumption) rfl rfl rfl rfl ?_; refine za ?_; refine zd ?_; refine AW.ret ?_)
    (apply ends_ret; (exact Res.one (.tmp rfl rfl)); (refine Le.litB ?_; (first | rfl | (rw [e2]))))
  · rw [decide_eq_false h]
    refine Fn.enter (n := 14) Try.func101 rfl rfl rfl rfl rfl (by decide) fun g hro_ hwt_ => ?_; (try refine nz ?_)
    by_cases h1 : 0 ≤ r
    · have h2 : ¬ r < 2 * (gs.length : Int) := fun h2 => h ⟨h1, h2⟩
      have e2 := decide_eq_false h2
      (refine zq ?_; refine za ?_; refine zd ?_; refine zq ?_; refine nz ?_; refine zm ?_; refine AOps.geq rfl rfl rfl rfl rfl ?_; refine zm ?_; refine AOps.guardTy rfl rfl rfl rfl rfl rfl (by with_reducible assumption) ?_; refine zm ?_; refine AOps.guardTy rfl rfl rfl rfl rfl rfl (by with_reducible assumption) ?_; refine AOps.fieldAddr_rN 31 0 0 1 rfl rfl rfl rfl ?_; refine nz ?_; refine AOps.guardTy rfl rfl rfl rfl rfl rfl (by with_reducible assumption) ?_; refine zr ?_; refine AOps.guardTy rfl rfl rfl rfl rfl rfl (by with_reducible assumption) ?_; refine zn ?_; refine AOps.guardTy rfl rfl rfl rfl rfl rfl (by with_reducible assumption) ?_; refine AOps.mul rfl rfl rfl rfl rfl (by omega) ?_; refine AOps.guardTy rfl rfl rfl rfl rfl rfl (by with_reducible assumption) ?_; refine zs ?_; refine AOps.pickT_pv rfl rfl (by with_reducible assumption) rfl rfl rfl rfl ?_; refine za ?_; refine zd ?_; refine AW.ret ?_)
      (apply ends_ret; (exact Res.one (.tmp rfl rfl)); (refine Le.litB ?_; (first | rfl | (rw [e2]))))
    · have e1 := decide_eq_false h1
      (refine zq ?_; refine za ?_; refine zd ?_; refine zq ?_; refine nz ?_; refine zm ?_; refine AOps.geq rfl rfl rfl rfl rfl ?_; refine zm ?_; (iterate 6 refine AOps.guardTn rfl rfl rfl rfl rfl rfl (by with_reducible assumption) ?_); refine AOps.pickF_pv rfl rfl (by with_reducible assumption) rfl rfl rfl rfl ?_; refine za ?_; refine zd ?_; refine AW.ret ?_)
      (apply ends_ret; (exact Res.one (.tmp rfl rfl)); (refine Le.litB ?_; (first | rfl | (rw [e1]))))
theorem notR_inv {a b : Int} (ha : 0 ≤ a) (hb : 0 ≤ b) : b = notR a ↔ a = notR b := by
  have e1 : notR a = if a % 2 = 0 then a + 1 else a - 1 := if_neg (by omega)
  have e2 : notR b = if b % 2 = 0 then b + 1 else b - 1 := if_neg (by omega)
  rw [e1, e2]
  by_cases p : a % 2 = 0
  · rw [if_pos p]
    by_cases q : b % 2 = 0
    · rw [if_pos q]; omega
    · rw [if_neg q]; omega
  · rw [if_neg p]
    by_cases q : b % 2 = 0
    · rw [if_pos q]; omega
    · rw [if_neg q]; omega
theorem pAnd_fn (gs : List GateM) (a b : Int) (hl : gs.length ≤ 400000) (hne : 0 < gs.length) (ha : -1000000 ≤ a ∧ a ≤ 1000000) (hb : -1000000 ≤ b ∧ b ≤ 1000000) : Fn Try.prog 66 [crc gs, litI a, litI b] (.tup [crc (andG gs a b).1, litI (andG gs a b).2]) := by
  have hs := pShare_fn gs ⟨2, min a b, max a b⟩ (by omega) hne
  have hn := pNot_fn b hb
  have hva := andV_fn gs a (by omega)
  have hvb := andV_fn gs b (by omega)
  unfold andG
  by_cases h0 : a < 0 ∨ b < 0 ∨ 2 * (gs.length : Int) ≤ a ∨ 2 * (gs.length : Int) ≤ b
  · rw [if_pos h0]
    by_cases hx : 0 ≤ a ∧ a < 2 * (gs.length : Int)
    · have hy : ¬ (0 ≤ b ∧ b < 2 * (gs.length : Int)) := by omega
      rw [decide_eq_true hx] at hva
      rw [decide_eq_false hy] at hvb
      refine Fn.enter (n := 62) Try.func66 rfl rfl rfl rfl rfl (by decide) fun g hro_ hwt_ => ?_; (try refine nz ?_)
      (refine zq ?_; refine AOps.box rfl rfl rfl rfl ?_; refine nz ?_; refine AOps.allocN' rfl rfl rfl rfl ?_; refine nz ?_; refine za ?_; refine zd ?_; refine zq ?_; refine nz ?_; refine AOps.makeFunc_c rfl rfl rfl ?_; refine AOps.assign rfl rfl rfl ?_; refine nz ?_; refine zd ?_; refine zo ?_; refine AW.block ?_; refine zq ?_; refine AOps.move_clo rfl rfl rfl ?_; refine zm ?_; (with_reducible apply AOps.callC0 (hf := hva)); (iterate 3 exact rfl); (repeat (first | exact .nil | (refine .cons ?_ ?_; (first | exact .le (.pv _) | exact .box rfl rfl | exact .le (.own _ _ _ _ rfl) | exact .le (.nil _) | exact .le (.any _) | exact .le (.rptr _) | (refine .le (.aggL ?_); repeat (first | exact .nil | (refine .cons ?_ ?_; (first | exact .pv _ | exact .own _ _ _ _ rfl | exact .nil _)))))))); exact rfl; exact rfl; exact (fun h_ => by cases h_); refine AOps.not rfl rfl rfl ?_; refine zm ?_; refine zl ?_; refine AOps.move_clo rfl rfl rfl ?_; refine zl ?_; refine zm ?_; refine zl ?_; (with_reducible apply AOps.callC0 (hf := hvb)); (iterate 3 exact rfl); (repeat (first | exact .nil | (refine .cons ?_ ?_; (first | exact .le (.pv _) | exact .box rfl rfl | exact .le (.own _ _ _ _ rfl) | exact .le (.nil _) | exact .le (.any _) | exact .le (.rptr _) | (refine .le (.aggL ?_); repeat (first | exact .nil | (refine .cons ?_ ?_; (first | exact .pv _ | exact .own _ _ _ _ rfl | exact .nil _)))))))); exact rfl; exact rfl; exact (fun h_ => by cases h_); refine zl ?_; refine AOps.not rfl rfl rfl ?_; refine AOps.pick_lf rfl rfl rfl rfl rfl rfl ?_; refine za ?_; refine zd ?_; refine AW.cond_lt rfl rfl ?_; refine zq ?_; refine nz ?_; refine AOps.load_ball rfl rfl rfl rfl rfl ?_; refine nz ?_; refine AOps.store_bn rfl rfl rfl rfl rfl rfl rfl rfl rfl (by with_reducible assumption) ?_; refine nz ?_; refine za ?_; refine zd ?_; refine AW.ret ?_; refine inBlockD_ret ?_; refine thenD_ret ?_)
      (apply ends_ret; (exact Res.two (.cell rfl rfl rfl rfl) (.tmp rfl rfl)); (refine Le.tupL ?_; refine LeL.cons ?_ ?_; refine Le.aggL ?_; refine LeL.cons ?_ ?_; (with_reducible exact Le.pv _); exact LeL.nil; refine LeL.cons ?_ ?_; refine Le.litI ?_; (rfl); exact LeL.nil))
    · rw [decide_eq_false hx] at hva
      refine Fn.enter (n := 62) Try.func66 rfl rfl rfl rfl rfl (by decide) fun g hro_ hwt_ => ?_; (try refine nz ?_)
      (refine zq ?_; refine AOps.box rfl rfl rfl rfl ?_; refine nz ?_; refine AOps.allocN' rfl rfl rfl rfl ?_; refine nz ?_; refine za ?_; refine zd ?_; refine zq ?_; refine nz ?_; refine AOps.makeFunc_c rfl rfl rfl ?_; refine AOps.assign rfl rfl rfl ?_; refine nz ?_; refine zd ?_; refine zo ?_; refine AW.block ?_; refine zq ?_; refine AOps.move_clo rfl rfl rfl ?_; refine zm ?_; (with_reducible apply AOps.callC0 (hf := hva)); (iterate 3 exact rfl); (repeat (first | exact .nil | (refine .cons ?_ ?_; (first | exact .le (.pv _) | exact .box rfl rfl | exact .le (.own _ _ _ _ rfl) | exact .le (.nil _) | exact .le (.any _) | exact .le (.rptr _) | (refine .le (.aggL ?_); repeat (first | exact .nil | (refine .cons ?_ ?_; (first | exact .pv _ | exact .own _ _ _ _ rfl | exact .nil _)))))))); exact rfl; exact rfl; exact (fun h_ => by cases h_); refine AOps.not rfl rfl rfl ?_; refine zm ?_; (iterate 4 refine AOps.guard_lf rfl rfl rfl rfl rfl rfl rfl ?_); refine AOps.pick_lt rfl rfl rfl rfl rfl rfl ?_; refine za ?_; refine zd ?_; refine AW.cond_lt rfl rfl ?_; refine zq ?_; refine nz ?_; refine AOps.load_ball rfl rfl rfl rfl rfl ?_; refine nz ?_; refine AOps.store_bn rfl rfl rfl rfl rfl rfl rfl rfl rfl (by with_reducible assumption) ?_; refine nz ?_; refine za ?_; refine zd ?_; refine AW.ret ?_; refine inBlockD_ret ?_; refine thenD_ret ?_)
      (apply ends_ret; (exact Res.two (.cell rfl rfl rfl rfl) (.tmp rfl rfl)); (refine Le.tupL ?_; refine LeL.cons ?_ ?_; refine Le.aggL ?_; refine LeL.cons ?_ ?_; (with_reducible exact Le.pv _); exact LeL.nil; refine LeL.cons ?_ ?_; refine Le.litI ?_; (rfl); exact LeL.nil))
  · rw [if_neg h0]
    have hx : 0 ≤ a ∧ a < 2 * (gs.length : Int) := by omega
    have hy : 0 ≤ b ∧ b < 2 * (gs.length : Int) := by omega
    rw [decide_eq_true hx] at hva
    rw [decide_eq_true hy] at hvb
    have hinv := notR_inv (a := a) (b := b) (by omega) (by omega)
    generalize notR b = nb at hn hinv ⊢
    by_cases h5 : a = 1 ∨ b = 1 ∨ b = notR a
    · rw [if_pos h5]
      have h5' : a = 1 ∨ b = 1 ∨ a = nb := h5.imp id (fun h => h.imp id hinv.1)
      refine Fn.enter (n := 62) Try.func66 rfl rfl rfl rfl rfl (by decide) fun g hro_ hwt_ => ?_; (try refine nz ?_)
      by_cases j1 : a = 1
      · (refine zq ?_; refine AOps.box rfl rfl rfl rfl ?_; refine nz ?_; refine AOps.allocN' rfl rfl rfl rfl ?_; refine nz ?_; refine za ?_; refine zd ?_; refine zq ?_; refine nz ?_; refine AOps.makeFunc_c rfl rfl rfl ?_; refine AOps.assign rfl rfl rfl ?_; refine nz ?_; refine zd ?_; refine zo ?_; refine AW.block ?_; refine zq ?_; refine AOps.move_clo rfl rfl rfl ?_; refine zm ?_; (with_reducible apply AOps.callC0 (hf := hva)); (iterate 3 exact rfl); (repeat (first | exact .nil | (refine .cons ?_ ?_; (first | exact .le (.pv _) | exact .box rfl rfl | exact .le (.own _ _ _ _ rfl) | exact .le (.nil _) | exact .le (.any _) | exact .le (.rptr _) | (refine .le (.aggL ?_); repeat (first | exact .nil | (refine .cons ?_ ?_; (first | exact .pv _ | exact .own _ _ _ _ rfl | exact .nil _)))))))); exact rfl; exact rfl; exact (fun h_ => by cases h_); refine AOps.not rfl rfl rfl ?_; refine zm ?_; refine zl ?_; refine AOps.move_clo rfl rfl rfl ?_; refine zl ?_; refine zm ?_; refine zl ?_; (with_reducible apply AOps.callC0 (hf := hvb)); (iterate 3 exact rfl); (repeat (first | exact .nil | (refine .cons ?_ ?_; (first | exact .le (.pv _) | exact .box rfl rfl | exact .le (.own _ _ _ _ rfl) | exact .le (.nil _) | exact .le (.any _) | exact .le (.rptr _) | (refine .le (.aggL ?_); repeat (first | exact .nil | (refine .cons ?_ ?_; (first | exact .pv _ | exact .own _ _ _ _ rfl | exact .nil _)))))))); exact rfl; exact rfl; exact (fun h_ => by cases h_); refine zl ?_; refine AOps.not rfl rfl rfl ?_; refine AOps.pick_lf rfl rfl rfl rfl rfl rfl ?_; refine za ?_; refine zd ?_; refine AW.cond_lf rfl rfl ?_; refine zq ?_; refine nz ?_; refine zm ?_; refine AOps.eql rfl rfl rfl rfl rfl ?_; refine zm ?_; (iterate 2 refine AOps.guardFn rfl rfl rfl rfl rfl rfl (by with_reducible assumption) ?_); refine AOps.pickT_pv rfl rfl (by with_reducible assumption) rfl rfl rfl rfl ?_; refine zm ?_; (iterate 4 refine AOps.guard_lf rfl rfl rfl rfl rfl rfl rfl ?_); refine AOps.pick_lt rfl rfl rfl rfl rfl rfl ?_; refine za ?_; refine zd ?_; refine AW.cond_lt rfl rfl ?_; refine zq ?_; refine nz ?_; refine AOps.load_ball rfl rfl rfl rfl rfl ?_; refine nz ?_; refine AOps.store_bn rfl rfl rfl rfl rfl rfl rfl rfl rfl (by with_reducible assumption) ?_; refine nz ?_; refine za ?_; refine zd ?_; refine AW.ret ?_; refine inBlockD_ret ?_; refine thenD_ret ?_)
        (apply ends_ret; (exact Res.two (.cell rfl rfl rfl rfl) (.tmp rfl rfl)); (refine Le.tupL ?_; refine LeL.cons ?_ ?_; refine Le.aggL ?_; refine LeL.cons ?_ ?_; (with_reducible exact Le.pv _); exact LeL.nil; refine LeL.cons ?_ ?_; refine Le.litI ?_; (rfl); exact LeL.nil))
      · by_cases j2 : b = 1
        · (refine zq ?_; refine AOps.box rfl rfl rfl rfl ?_; refine nz ?_; refine AOps.allocN' rfl rfl rfl rfl ?_; refine nz ?_; refine za ?_; refine zd ?_; refine zq ?_; refine nz ?_; refine AOps.makeFunc_c rfl rfl rfl ?_; refine AOps.assign rfl rfl rfl ?_; refine nz ?_; refine zd ?_; refine zo ?_; refine AW.block ?_; refine zq ?_; refine AOps.move_clo rfl rfl rfl ?_; refine zm ?_; (with_reducible apply AOps.callC0 (hf := hva)); (iterate 3 exact rfl); (repeat (first | exact .nil | (refine .cons ?_ ?_; (first | exact .le (.pv _) | exact .box rfl rfl | exact .le (.own _ _ _ _ rfl) | exact .le (.nil _) | exact .le (.any _) | exact .le (.rptr _) | (refine .le (.aggL ?_); repeat (first | exact .nil | (refine .cons ?_ ?_; (first | exact .pv _ | exact .own _ _ _ _ rfl | exact .nil _)))))))); exact rfl; exact rfl; exact (fun h_ => by cases h_); refine AOps.not rfl rfl rfl ?_; refine zm ?_; refine zl ?_; refine AOps.move_clo rfl rfl rfl ?_; refine zl ?_; refine zm ?_; refine zl ?_; (with_reducible apply AOps.callC0 (hf := hvb)); (iterate 3 exact rfl); (repeat (first | exact .nil | (refine .cons ?_ ?_; (first | exact .le (.pv _) | exact .box rfl rfl | exact .le (.own _ _ _ _ rfl) | exact .le (.nil _) | exact .le (.any _) | exact .le (.rptr _) | (refine .le (.aggL ?_); repeat (first | exact .nil | (refine .cons ?_ ?_; (first | exact .pv _ | exact .own _ _ _ _ rfl | exact .nil _)))))))); exact rfl; exact rfl; exact (fun h_ => by cases h_); refine zl ?_; refine AOps.not rfl rfl rfl ?_; refine AOps.pick_lf rfl rfl rfl rfl rfl rfl ?_; refine za ?_; refine zd ?_; refine AW.cond_lf rfl rfl ?_; refine zq ?_; refine nz ?_; refine zm ?_; refine AOps.eql rfl rfl rfl rfl rfl ?_; refine zm ?_; refine AOps.guardFy rfl rfl rfl rfl rfl rfl (by with_reducible assumption) ?_; refine zm ?_; refine AOps.guardFy rfl rfl rfl rfl rfl rfl (by with_reducible assumption) ?_; refine AOps.eql rfl rfl rfl rfl rfl ?_; refine AOps.pickF_pv rfl rfl (by with_reducible assumption) rfl rfl rfl rfl ?_; refine zm ?_; (iterate 4 refine AOps.guardFn rfl rfl rfl rfl rfl rfl (by with_reducible assumption) ?_); refine AOps.pickT_pv rfl rfl (by with_reducible assumption) rfl rfl rfl rfl ?_; refine za ?_; refine zd ?_; refine AW.cond_lt rfl rfl ?_; refine zq ?_; refine nz ?_; refine AOps.load_ball rfl rfl rfl rfl rfl ?_; refine nz ?_; refine AOps.store_bn rfl rfl rfl rfl rfl rfl rfl rfl rfl (by with_reducible assumption) ?_; refine nz ?_; refine za ?_; refine zd ?_; refine AW.ret ?_; refine inBlockD_ret ?_; refine thenD_ret ?_)
          (apply ends_ret; (exact Res.two (.cell rfl rfl rfl rfl) (.tmp rfl rfl)); (refine Le.tupL ?_; refine LeL.cons ?_ ?_; refine Le.aggL ?_; refine LeL.cons ?_ ?_; (with_reducible exact Le.pv _); exact LeL.nil; refine LeL.cons ?_ ?_; refine Le.litI ?_; (rfl); exact LeL.nil))
        · have j3 : a = nb := by omega
          (refine zq ?_; refine AOps.box rfl rfl rfl rfl ?_; refine nz ?_; refine AOps.allocN' rfl rfl rfl rfl ?_; refine nz ?_; refine za ?_; refine zd ?_; refine zq ?_; refine nz ?_; refine AOps.makeFunc_c rfl rfl rfl ?_; refine AOps.assign rfl rfl rfl ?_; refine nz ?_; refine zd ?_; refine zo ?_; refine AW.block ?_; refine zq ?_; refine AOps.move_clo rfl rfl rfl ?_; refine zm ?_; (with_reducible apply AOps.callC0 (hf := hva)); (iterate 3 exact rfl); (repeat (first | exact .nil | (refine .cons ?_ ?_; (first | exact .le (.pv _) | exact .box rfl rfl | exact .le (.own _ _ _ _ rfl) | exact .le (.nil _) | exact .le (.any _) | exact .le (.rptr _) | (refine .le (.aggL ?_); repeat (first | exact .nil | (refine .cons ?_ ?_; (first | exact .pv _ | exact .own _ _ _ _ rfl | exact .nil _)))))))); exact rfl; exact rfl; exact (fun h_ => by cases h_); refine AOps.not rfl rfl rfl ?_; refine zm ?_; refine zl ?_; refine AOps.move_clo rfl rfl rfl ?_; refine zl ?_; refine zm ?_; refine zl ?_; (with_reducible apply AOps.callC0 (hf := hvb)); (iterate 3 exact rfl); (repeat (first | exact .nil | (refine .cons ?_ ?_; (first | exact .le (.pv _) | exact .box rfl rfl | exact .le (.own _ _ _ _ rfl) | exact .le (.nil _) | exact .le (.any _) | exact .le (.rptr _) | (refine .le (.aggL ?_); repeat (first | exact .nil | (refine .cons ?_ ?_; (first | exact .pv _ | exact .own _ _ _ _ rfl | exact .nil _)))))))); exact rfl; exact rfl; exact (fun h_ => by cases h_); refine zl ?_; refine AOps.not rfl rfl rfl ?_; refine AOps.pick_lf rfl rfl rfl rfl rfl rfl ?_; refine za ?_; refine zd ?_; refine AW.cond_lf rfl rfl ?_; refine zq ?_; refine nz ?_; refine zm ?_; refine AOps.eql rfl rfl rfl rfl rfl ?_; refine zm ?_; refine AOps.guardFy rfl rfl rfl rfl rfl rfl (by with_reducible assumption) ?_; refine zm ?_; refine AOps.guardFy rfl rfl rfl rfl rfl rfl (by with_reducible assumption) ?_; refine AOps.eql rfl rfl rfl rfl rfl ?_; refine AOps.pickF_pv rfl rfl (by with_reducible assumption) rfl rfl rfl rfl ?_; refine zm ?_; refine AOps.guardFy rfl rfl rfl rfl rfl rfl (by with_reducible assumption) ?_; refine zm ?_; refine AOps.guardFy rfl rfl rfl rfl rfl rfl (by with_reducible assumption) ?_; refine zm ?_; refine AOps.guardFy rfl rfl rfl rfl rfl rfl (by with_reducible assumption) ?_; (with_reducible apply AOps.call (hn)); (repeat (first | exact .nil | (refine .cons rfl ?_ ?_; (first | exact .pv _ | exact .own _ _ _ _ rfl | exact .nil _ | exact .any _ | exact .rptr _ | (refine .aggL ?_; repeat (first | exact .nil | (refine .cons ?_ ?_; (first | exact .pv _ | exact .own _ _ _ _ rfl | exact .nil _)))))))); exact rfl; exact rfl; exact (fun h_ => by cases h_); refine AOps.guardFy rfl rfl rfl rfl rfl rfl (by with_reducible assumption) ?_; refine AOps.eql rfl rfl rfl rfl rfl ?_; refine AOps.pickF_pv rfl rfl (by with_reducible assumption) rfl rfl rfl rfl ?_; refine za ?_; refine zd ?_; refine AW.condY rfl rfl (by with_reducible assumption) ?_; refine zq ?_; refine nz ?_; refine AOps.load_ball rfl rfl rfl rfl rfl ?_; refine nz ?_; refine AOps.store_bn rfl rfl rfl rfl rfl rfl rfl rfl rfl (by with_reducible assumption) ?_; refine nz ?_; refine za ?_; refine zd ?_; refine AW.ret ?_; refine inBlockD_ret ?_; refine thenD_ret ?_)
          (apply ends_ret; (exact Res.two (.cell rfl rfl rfl rfl) (.tmp rfl rfl)); (refine Le.tupL ?_; refine LeL.cons ?_ ?_; refine Le.aggL ?_; refine LeL.cons ?_ ?_; (with_reducible exact Le.pv _); exact LeL.nil; refine LeL.cons ?_ ?_; refine Le.litI ?_; (rfl); exact LeL.nil))
    · rw [if_neg h5]
      have k1 : ¬ a = 1 := fun h => h5 (.inl h)
      have k2 : ¬ b = 1 := fun h => h5 (.inr (.inl h))
      have k3 : ¬ a = nb := fun h => h5 (.inr (.inr (hinv.2 h)))
      refine Fn.enter (n := 62) Try.func66 rfl rfl rfl rfl rfl (by decide) fun g hro_ hwt_ => ?_; (try refine nz ?_)
      by_cases h6 : a = 0
      · rw [if_pos h6]
        (refine zq ?_; refine AOps.box rfl rfl rfl rfl ?_; refine nz ?_; refine AOps.allocN' rfl rfl rfl rfl ?_; refine nz ?_; refine za ?_; refine zd ?_; refine zq ?_; refine nz ?_; refine AOps.makeFunc_c rfl rfl rfl ?_; refine AOps.assign rfl rfl rfl ?_; refine nz ?_; refine zd ?_; refine zo ?_; refine AW.block ?_; refine zq ?_; refine AOps.move_clo rfl rfl rfl ?_; refine zm ?_; (with_reducible apply AOps.callC0 (hf := hva)); (iterate 3 exact rfl); (repeat (first | exact .nil | (refine .cons ?_ ?_; (first | exact .le (.pv _) | exact .box rfl rfl | exact .le (.own _ _ _ _ rfl) | exact .le (.nil _) | exact .le (.any _) | exact .le (.rptr _) | (refine .le (.aggL ?_); repeat (first | exact .nil | (refine .cons ?_ ?_; (first | exact .pv _ | exact .own _ _ _ _ rfl | exact .nil _)))))))); exact rfl; exact rfl; exact (fun h_ => by cases h_); refine AOps.not rfl rfl rfl ?_; refine zm ?_; refine zl ?_; refine AOps.move_clo rfl rfl rfl ?_; refine zl ?_; refine zm ?_; refine zl ?_; (with_reducible apply AOps.callC0 (hf := hvb)); (iterate 3 exact rfl); (repeat (first | exact .nil | (refine .cons ?_ ?_; (first | exact .le (.pv _) | exact .box rfl rfl | exact .le (.own _ _ _ _ rfl) | exact .le (.nil _) | exact .le (.any _) | exact .le (.rptr _) | (refine .le (.aggL ?_); repeat (first | exact .nil | (refine .cons ?_ ?_; (first | exact .pv _ | exact .own _ _ _ _ rfl | exact .nil _)))))))); exact rfl; exact rfl; exact (fun h_ => by cases h_); refine zl ?_; refine AOps.not rfl rfl rfl ?_; refine AOps.pick_lf rfl rfl rfl rfl rfl rfl ?_; refine za ?_; refine zd ?_; refine AW.cond_lf rfl rfl ?_; refine zq ?_; refine nz ?_; refine zm ?_; refine AOps.eql rfl rfl rfl rfl rfl ?_; refine zm ?_; refine AOps.guardFy rfl rfl rfl rfl rfl rfl (by with_reducible assumption) ?_; refine zm ?_; refine AOps.guardFy rfl rfl rfl rfl rfl rfl (by with_reducible assumption) ?_; refine AOps.eql rfl rfl rfl rfl rfl ?_; refine AOps.pickF_pv rfl rfl (by with_reducible assumption) rfl rfl rfl rfl ?_; refine zm ?_; refine AOps.guardFy rfl rfl rfl rfl rfl rfl (by with_reducible assumption) ?_; refine zm ?_; refine AOps.guardFy rfl rfl rfl rfl rfl rfl (by with_reducible assumption) ?_; refine zm ?_; refine AOps.guardFy rfl rfl rfl rfl rfl rfl (by with_reducible assumption) ?_; (with_reducible apply AOps.call (hn)); (repeat (first | exact .nil | (refine .cons rfl ?_ ?_; (first | exact .pv _ | exact .own _ _ _ _ rfl | exact .nil _ | exact .any _ | exact .rptr _ | (refine .aggL ?_; repeat (first | exact .nil | (refine .cons ?_ ?_; (first | exact .pv _ | exact .own _ _ _ _ rfl | exact .nil _)))))))); exact rfl; exact rfl; exact (fun h_ => by cases h_); refine AOps.guardFy rfl rfl rfl rfl rfl rfl (by with_reducible assumption) ?_; refine AOps.eql rfl rfl rfl rfl rfl ?_; refine AOps.pickF_pv rfl rfl (by with_reducible assumption) rfl rfl rfl rfl ?_; refine za ?_; refine zd ?_; refine AW.condN rfl rfl (by with_reducible assumption) ?_; refine zq ?_; refine nz ?_; refine zm ?_; refine AOps.eql rfl rfl rfl rfl rfl ?_; refine za ?_; refine zd ?_; refine AW.condY rfl rfl (by with_reducible assumption) ?_; refine zq ?_; refine nz ?_; refine AOps.load_ball rfl rfl rfl rfl rfl ?_; refine nz ?_; refine zm ?_; refine AOps.store_bn rfl rfl rfl rfl rfl rfl rfl rfl rfl (by with_reducible assumption) ?_; refine nz ?_; refine za ?_; refine zd ?_; refine AW.ret ?_; refine inBlockD_ret ?_; refine thenD_ret ?_)
        (apply ends_ret; (exact Res.two (.cell rfl rfl rfl rfl) (.tmp rfl rfl)); (refine Le.tupL ?_; refine LeL.cons ?_ ?_; refine Le.aggL ?_; refine LeL.cons ?_ ?_; (with_reducible exact Le.pv _); exact LeL.nil; refine LeL.cons ?_ ?_; refine Le.litI ?_; (rfl); exact LeL.nil))
      · rw [if_neg h6]
        by_cases h7 : b = 0 ∨ a = b
        · rw [if_pos h7]
          by_cases j1 : b = 0
          · (refine zq ?_; refine AOps.box rfl rfl rfl rfl ?_; refine nz ?_; refine AOps.allocN' rfl rfl rfl rfl ?_; refine nz ?_; refine za ?_; refine zd ?_; refine zq ?_; refine nz ?_; refine AOps.makeFunc_c rfl rfl rfl ?_; refine AOps.assign rfl rfl rfl ?_; refine nz ?_; refine zd ?_; refine zo ?_; refine AW.block ?_; refine zq ?_; refine AOps.move_clo rfl rfl rfl ?_; refine zm ?_; (with_reducible apply AOps.callC0 (hf := hva)); (iterate 3 exact rfl); (repeat (first | exact .nil | (refine .cons ?_ ?_; (first | exact .le (.pv _) | exact .box rfl rfl | exact .le (.own _ _ _ _ rfl) | exact .le (.nil _) | exact .le (.any _) | exact .le (.rptr _) | (refine .le (.aggL ?_); repeat (first | exact .nil | (refine .cons ?_ ?_; (first | exact .pv _ | exact .own _ _ _ _ rfl | exact .nil _)))))))); exact rfl; exact rfl; exact (fun h_ => by cases h_); refine AOps.not rfl rfl rfl ?_; refine zm ?_; refine zl ?_; refine AOps.move_clo rfl rfl rfl ?_; refine zl ?_; refine zm ?_; refine zl ?_; (with_reducible apply AOps.callC0 (hf := hvb)); (iterate 3 exact rfl); (repeat (first | exact .nil | (refine .cons ?_ ?_; (first | exact .le (.pv _) | exact .box rfl rfl | exact .le (.own _ _ _ _ rfl) | exact .le (.nil _) | exact .le (.any _) | exact .le (.rptr _) | (refine .le (.aggL ?_); repeat (first | exact .nil | (refine .cons ?_ ?_; (first | exact .pv _ | exact .own _ _ _ _ rfl | exact .nil _)))))))); exact rfl; exact rfl; exact (fun h_ => by cases h_); refine zl ?_; refine AOps.not rfl rfl rfl ?_; refine AOps.pick_lf rfl rfl rfl rfl rfl rfl ?_; refine za ?_; refine zd ?_; refine AW.cond_lf rfl rfl ?_; refine zq ?_; refine nz ?_; refine zm ?_; refine AOps.eql rfl rfl rfl rfl rfl ?_; refine zm ?_; refine AOps.guardFy rfl rfl rfl rfl rfl rfl (by with_reducible assumption) ?_; refine zm ?_; refine AOps.guardFy rfl rfl rfl rfl rfl rfl (by with_reducible assumption) ?_; refine AOps.eql rfl rfl rfl rfl rfl ?_; refine AOps.pickF_pv rfl rfl (by with_reducible assumption) rfl rfl rfl rfl ?_; refine zm ?_; refine AOps.guardFy rfl rfl rfl rfl rfl rfl (by with_reducible assumption) ?_; refine zm ?_; refine AOps.guardFy rfl rfl rfl rfl rfl rfl (by with_reducible assumption) ?_; refine zm ?_; refine AOps.guardFy rfl rfl rfl rfl rfl rfl (by with_reducible assumption) ?_; (with_reducible apply AOps.call (hn)); (repeat (first | exact .nil | (refine .cons rfl ?_ ?_; (first | exact .pv _ | exact .own _ _ _ _ rfl | exact .nil _ | exact .any _ | exact .rptr _ | (refine .aggL ?_; repeat (first | exact .nil | (refine .cons ?_ ?_; (first | exact .pv _ | exact .own _ _ _ _ rfl | exact .nil _)))))))); exact rfl; exact rfl; exact (fun h_ => by cases h_); refine AOps.guardFy rfl rfl rfl rfl rfl rfl (by with_reducible assumption) ?_; refine AOps.eql rfl rfl rfl rfl rfl ?_; refine AOps.pickF_pv rfl rfl (by with_reducible assumption) rfl rfl rfl rfl ?_; refine za ?_; refine zd ?_; refine AW.condN rfl rfl (by with_reducible assumption) ?_; refine zq ?_; refine nz ?_; refine zm ?_; refine AOps.eql rfl rfl rfl rfl rfl ?_; refine za ?_; refine zd ?_; refine AW.condN rfl rfl (by with_reducible assumption) ?_; refine zq ?_; refine nz ?_; refine zm ?_; refine AOps.eql rfl rfl rfl rfl rfl ?_; refine zm ?_; (iterate 3 refine AOps.guardFn rfl rfl rfl rfl rfl rfl (by with_reducible assumption) ?_); refine AOps.pickT_pv rfl rfl (by with_reducible assumption) rfl rfl rfl rfl ?_; refine za ?_; refine zd ?_; refine AW.cond_lt rfl rfl ?_; refine zq ?_; refine nz ?_; refine AOps.load_ball rfl rfl rfl rfl rfl ?_; refine nz ?_; refine zm ?_; refine AOps.store_bn rfl rfl rfl rfl rfl rfl rfl rfl rfl (by with_reducible assumption) ?_; refine nz ?_; refine za ?_; refine zd ?_; refine AW.ret ?_; refine inBlockD_ret ?_; refine thenD_ret ?_)
            (apply ends_ret; (exact Res.two (.cell rfl rfl rfl rfl) (.tmp rfl rfl)); (refine Le.tupL ?_; refine LeL.cons ?_ ?_; refine Le.aggL ?_; refine LeL.cons ?_ ?_; (with_reducible exact Le.pv _); exact LeL.nil; refine LeL.cons ?_ ?_; refine Le.litI ?_; (rfl); exact LeL.nil))
          · have j2 : a = b := by omega
            (refine zq ?_; refine AOps.box rfl rfl rfl rfl ?_; refine nz ?_; refine AOps.allocN' rfl rfl rfl rfl ?_; refine nz ?_; refine za ?_; refine zd ?_; refine zq ?_; refine nz ?_; refine AOps.makeFunc_c rfl rfl rfl ?_; refine AOps.assign rfl rfl rfl ?_; refine nz ?_; refine zd ?_; refine zo ?_; refine AW.block ?_; refine zq ?_; refine AOps.move_clo rfl rfl rfl ?_; refine zm ?_; (with_reducible apply AOps.callC0 (hf := hva)); (iterate 3 exact rfl); (repeat (first | exact .nil | (refine .cons ?_ ?_; (first | exact .le (.pv _) | exact .box rfl rfl | exact .le (.own _ _ _ _ rfl) | exact .le (.nil _) | exact .le (.any _) | exact .le (.rptr _) | (refine .le (.aggL ?_); repeat (first | exact .nil | (refine .cons ?_ ?_; (first | exact .pv _ | exact .own _ _ _ _ rfl | exact .nil _)))))))); exact rfl; exact rfl; exact (fun h_ => by cases h_); refine AOps.not rfl rfl rfl ?_; refine zm ?_; refine zl ?_; refine AOps.move_clo rfl rfl rfl ?_; refine zl ?_; refine zm ?_; refine zl ?_; (with_reducible apply AOps.callC0 (hf := hvb)); (iterate 3 exact rfl); (repeat (first | exact .nil | (refine .cons ?_ ?_; (first | exact .le (.pv _) | exact .box rfl rfl | exact .le (.own _ _ _ _ rfl) | exact .le (.nil _) | exact .le (.any _) | exact .le (.rptr _) | (refine .le (.aggL ?_); repeat (first | exact .nil | (refine .cons ?_ ?_; (first | exact .pv _ | exact .own _ _ _ _ rfl | exact .nil _)))))))); exact rfl; exact rfl; exact (fun h_ => by cases h_); refine zl ?_; refine AOps.not rfl rfl rfl ?_; refine AOps.pick_lf rfl rfl rfl rfl rfl rfl ?_; refine za ?_; refine zd ?_; refine AW.cond_lf rfl rfl ?_; refine zq ?_; refine nz ?_; refine zm ?_; refine AOps.eql rfl rfl rfl rfl rfl ?_; refine zm ?_; refine AOps.guardFy rfl rfl rfl rfl rfl rfl (by with_reducible assumption) ?_; refine zm ?_; refine AOps.guardFy rfl rfl rfl rfl rfl rfl (by with_reducible assumption) ?_; refine AOps.eql rfl rfl rfl rfl rfl ?_; refine AOps.pickF_pv rfl rfl (by with_reducible assumption) rfl rfl rfl rfl ?_; refine zm ?_; refine AOps.guardFy rfl rfl rfl rfl rfl rfl (by with_reducible assumption) ?_; refine zm ?_; refine AOps.guardFy rfl rfl rfl rfl rfl rfl (by with_reducible assumption) ?_; refine zm ?_; refine AOps.guardFy rfl rfl rfl rfl rfl rfl (by with_reducible assumption) ?_; (with_reducible apply AOps.call (hn)); (repeat (first | exact .nil | (refine .cons rfl ?_ ?_; (first | exact .pv _ | exact .own _ _ _ _ rfl | exact .nil _ | exact .any _ | exact .rptr _ | (refine .aggL ?_; repeat (first | exact .nil | (refine .cons ?_ ?_; (first | exact .pv _ | exact .own _ _ _ _ rfl | exact .nil _)))))))); exact rfl; exact rfl; exact (fun h_ => by cases h_); refine AOps.guardFy rfl rfl rfl rfl rfl rfl (by with_reducible assumption) ?_; refine AOps.eql rfl rfl rfl rfl rfl ?_; refine AOps.pickF_pv rfl rfl (by with_reducible assumption) rfl rfl rfl rfl ?_; refine za ?_; refine zd ?_; refine AW.condN rfl rfl (by with_reducible assumption) ?_; refine zq ?_; refine nz ?_; refine zm ?_; refine AOps.eql rfl rfl rfl rfl rfl ?_; refine za ?_; refine zd ?_; refine AW.condN rfl rfl (by with_reducible assumption) ?_; refine zq ?_; refine nz ?_; refine zm ?_; refine AOps.eql rfl rfl rfl rfl rfl ?_; refine zm ?_; refine AOps.guardFy rfl rfl rfl rfl rfl rfl (by with_reducible assumption) ?_; refine zm ?_; refine AOps.guardFy rfl rfl rfl rfl rfl rfl (by with_reducible assumption) ?_; refine zm ?_; refine AOps.guardFy rfl rfl rfl rfl rfl rfl (by with_reducible assumption) ?_; refine AOps.eql rfl rfl rfl rfl rfl ?_; refine AOps.pickF_pv rfl rfl (by with_reducible assumption) rfl rfl rfl rfl ?_; refine za ?_; refine zd ?_; refine AW.condY rfl rfl (by with_reducible assumption) ?_; refine zq ?_; refine nz ?_; refine AOps.load_ball rfl rfl rfl rfl rfl ?_; refine nz ?_; refine zm ?_; refine AOps.store_bn rfl rfl rfl rfl rfl rfl rfl rfl rfl (by with_reducible assumption) ?_; refine nz ?_; refine za ?_; refine zd ?_; refine AW.ret ?_; refine inBlockD_ret ?_; refine thenD_ret ?_)
            (apply ends_ret; (exact Res.two (.cell rfl rfl rfl rfl) (.tmp rfl rfl)); (refine Le.tupL ?_; refine LeL.cons ?_ ?_; refine Le.aggL ?_; refine LeL.cons ?_ ?_; (with_reducible exact Le.pv _); exact LeL.nil; refine LeL.cons ?_ ?_; refine Le.litI ?_; (rfl); exact LeL.nil))
        · rw [if_neg h7]
          have m1 : ¬ b = 0 := by omega
          have m2 : ¬ a = b := by omega
          (refine zq ?_; refine AOps.box rfl rfl rfl rfl ?_; refine nz ?_; refine AOps.allocN' rfl rfl rfl rfl ?_; refine nz ?_; refine za ?_; refine zd ?_; refine zq ?_; refine nz ?_; refine AOps.makeFunc_c rfl rfl rfl ?_; refine AOps.assign rfl rfl rfl ?_; refine nz ?_; refine zd ?_; refine zo ?_; refine AW.block ?_; refine zq ?_; refine AOps.move_clo rfl rfl rfl ?_; refine zm ?_; (with_reducible apply AOps.callC0 (hf := hva)); (iterate 3 exact rfl); (repeat (first | exact .nil | (refine .cons ?_ ?_; (first | exact .le (.pv _) | exact .box rfl rfl | exact .le (.own _ _ _ _ rfl) | exact .le (.nil _) | exact .le (.any _) | exact .le (.rptr _) | (refine .le (.aggL ?_); repeat (first | exact .nil | (refine .cons ?_ ?_; (first | exact .pv _ | exact .own _ _ _ _ rfl | exact .nil _)))))))); exact rfl; exact rfl; exact (fun h_ => by cases h_); refine AOps.not rfl rfl rfl ?_; refine zm ?_; refine zl ?_; refine AOps.move_clo rfl rfl rfl ?_; refine zl ?_; refine zm ?_; refine zl ?_; (with_reducible apply AOps.callC0 (hf := hvb)); (iterate 3 exact rfl); (repeat (first | exact .nil | (refine .cons ?_ ?_; (first | exact .le (.pv _) | exact .box rfl rfl | exact .le (.own _ _ _ _ rfl) | exact .le (.nil _) | exact .le (.any _) | exact .le (.rptr _) | (refine .le (.aggL ?_); repeat (first | exact .nil | (refine .cons ?_ ?_; (first | exact .pv _ | exact .own _ _ _ _ rfl | exact .nil _)))))))); exact rfl; exact rfl; exact (fun h_ => by cases h_); refine zl ?_; refine AOps.not rfl rfl rfl ?_; refine AOps.pick_lf rfl rfl rfl rfl rfl rfl ?_; refine za ?_; refine zd ?_; refine AW.cond_lf rfl rfl ?_; refine zq ?_; refine nz ?_; refine zm ?_; refine AOps.eql rfl rfl rfl rfl rfl ?_; refine zm ?_; refine AOps.guardFy rfl rfl rfl rfl rfl rfl (by with_reducible assumption) ?_; refine zm ?_; refine AOps.guardFy rfl rfl rfl rfl rfl rfl (by with_reducible assumption) ?_; refine AOps.eql rfl rfl rfl rfl rfl ?_; refine AOps.pickF_pv rfl rfl (by with_reducible assumption) rfl rfl rfl rfl ?_; refine zm ?_; refine AOps.guardFy rfl rfl rfl rfl rfl rfl (by with_reducible assumption) ?_; refine zm ?_; refine AOps.guardFy rfl rfl rfl rfl rfl rfl (by with_reducible assumption) ?_; refine zm ?_; refine AOps.guardFy rfl rfl rfl rfl rfl rfl (by with_reducible assumption) ?_; (with_reducible apply AOps.call (hn)); (repeat (first | exact .nil | (refine .cons rfl ?_ ?_; (first | exact .pv _ | exact .own _ _ _ _ rfl | exact .nil _ | exact .any _ | exact .rptr _ | (refine .aggL ?_; repeat (first | exact .nil | (refine .cons ?_ ?_; (first | exact .pv _ | exact .own _ _ _ _ rfl | exact .nil _)))))))); exact rfl; exact rfl; exact (fun h_ => by cases h_); refine AOps.guardFy rfl rfl rfl rfl rfl rfl (by with_reducible assumption) ?_; refine AOps.eql rfl rfl rfl rfl rfl ?_; refine AOps.pickF_pv rfl rfl (by with_reducible assumption) rfl rfl rfl rfl ?_; refine za ?_; refine zd ?_; refine AW.condN rfl rfl (by with_reducible assumption) ?_; refine zq ?_; refine nz ?_; refine zm ?_; refine AOps.eql rfl rfl rfl rfl rfl ?_; refine za ?_; refine zd ?_; refine AW.condN rfl rfl (by with_reducible assumption) ?_; refine zq ?_; refine nz ?_; refine zm ?_; refine AOps.eql rfl rfl rfl rfl rfl ?_; refine zm ?_; refine AOps.guardFy rfl rfl rfl rfl rfl rfl (by with_reducible assumption) ?_; refine zm ?_; refine AOps.guardFy rfl rfl rfl rfl rfl rfl (by with_reducible assumption) ?_; refine zm ?_; refine AOps.guardFy rfl rfl rfl rfl rfl rfl (by with_reducible assumption) ?_; refine AOps.eql rfl rfl rfl rfl rfl ?_; refine AOps.pickF_pv rfl rfl (by with_reducible assumption) rfl rfl rfl rfl ?_; refine za ?_; refine zd ?_; refine AW.condN rfl rfl (by with_reducible assumption) ?_; refine AW.skip ?_; refine inBlockD_n ?_; refine thenD_n ?_; refine zq ?_; refine nz ?_; refine AOps.load_ball rfl rfl rfl rfl rfl ?_; refine nz ?_; (iterate 2 refine zm ?_); refine AOps.min2 rfl rfl rfl rfl rfl ?_; (iterate 2 refine zm ?_); refine AOps.max2 rfl rfl rfl rfl rfl ?_; refine AOps.buildN 82 [0, 1, 2] rfl rfl rfl rfl rfl rfl rfl rfl rfl ?_; refine nz ?_; (with_reducible apply AOps.callp (hs)); (repeat (first | exact .nil | (refine .cons rfl ?_ ?_; (first | exact .pv _ | exact .own _ _ _ _ rfl | exact .nil _ | exact .any _ | exact .rptr _ | (refine .aggL ?_; repeat (first | exact .nil | (refine .cons ?_ ?_; (first | exact .pv _ | exact .own _ _ _ _ rfl | exact .nil _)))))))); exact rfl; (iterate 2 refine AOps.extract rfl rfl rfl rfl ?_); refine AOps.store_bn rfl rfl rfl rfl rfl rfl rfl rfl rfl (by with_reducible assumption) ?_; refine nz ?_; refine za ?_; refine zd ?_; refine AW.ret ?_)
          (apply ends_ret; (exact Res.two (.cell rfl rfl rfl rfl) (.tmp rfl rfl)); (refine Le.tupL ?_; refine LeL.cons ?_ ?_; refine Le.aggL ?_; refine LeL.cons ?_ ?_; (with_reducible exact Le.pv _); exact LeL.nil; refine LeL.cons ?_ ?_; refine Le.litI ?_; (rfl); exact LeL.nil))
end Go.Ab
/- Chapter 24: the builder of predicates: its methods; the inverse of a permutation, walked. -/
namespace Go.Ab
open Go Go.Proofs
open Nat (reduceAdd reduceSub)
set_option maxRecDepth 20000
set_option maxHeartbeats 4000000
/-- the inverse, as far as the first k have been seen. -/
def invTo (perm : List Int) (k : Nat) : List Int := (List.range perm.length).map fun j : Nat => if perm.findIdx (fun x => decide (x = (j : Int) + 1)) < k then backM perm ((j : Int) + 1) else 0
theorem invTo_len (perm : List Int) (k : Nat) : (invTo perm k).length = perm.length := by simp [invTo]
theorem invTo_zero (perm : List Int) : invTo perm 0 = List.replicate perm.length 0 := by
  rw [List.eq_replicate_iff]
  refine ⟨invTo_len perm 0, fun x hx => ?_⟩
  obtain ⟨j, _, rfl⟩ := List.mem_map.1 hx
  rw [if_neg (by omega)]
theorem invTo_all {perm : List Int} (h : PermOk perm) : invTo perm perm.length = invM perm := by
  unfold invTo invM
  refine List.map_congr_left fun j hj => ?_
  have hj := List.mem_range.1 hj
  obtain ⟨i, hi, h1, _⟩ := h.at (w := (j : Int) + 1) (by omega)
  rw [if_pos (by omega)]
theorem invTo_set {perm : List Int} (h : PermOk perm) {k : Nat} (hk : k < perm.length) : (invTo perm k).set (perm[k] - 1).toNat ((k : Int) + 1) = invTo perm (k + 1) := by
  have hr := h.rng _ (List.getElem_mem hk)
  refine List.ext_getElem (by simp [invTo]) fun j h1 h2 => ?_
  have hj : j < perm.length := by simpa [invTo] using h2
  obtain ⟨i, hi, i1, i2⟩ := h.at (w := (j : Int) + 1) (by omega)
  rw [List.getElem_set]
  simp only [invTo, List.getElem_map, List.getElem_range, i1]
  by_cases e : (perm[k] - 1).toNat = j
  · rw [if_pos e]
    have e2 : perm[i] = perm[k] := by rw [i2]; omega
    have := (List.getElem_inj h.nodup).1 e2
    subst this
    rw [if_pos (by omega)]
    unfold backM
    rw [i1]
  · rw [if_neg e]
    have : i ≠ k := by rintro rfl; omega
    by_cases hik : i < k
    · rw [if_pos hik, if_pos (by omega)]
    · rw [if_neg hik, if_neg (by omega)]
theorem setI1 (l : List Int) (i : Nat) (x : Int) : (l.map encI).set i [PV.lit (.int .i64 x)] = (l.set i x).map encI := by
  rw [List.map_set]; rfl
attribute [local irreducible] AW AOps thenD inBlockD AR iterEnds roundEndsN inlEnds noGotoD findG EndsX invTo invM
theorem inverse_fn (perm : List Int) (h : PermOk perm) (hl : perm.length ≤ 100000) : Fn Try.prog 46 [.pv (ints perm)] (.pv (ints (invM perm))) := by
  refine Fn.enter (n := 24) Try.func46 rfl rfl rfl rfl rfl (by decide) fun g hro_ hwt_ => ?_; (try refine nz ?_)
  (refine zq ?_; refine za ?_; refine zd ?_; refine zq ?_; refine nz ?_; refine zm ?_; refine zn ?_; refine AOps.makeSlice1 rfl rfl rfl rfl rfl rfl rfl rfl rfl rfl (by omega) ?_; refine nz ?_; refine AOps.assign_own rfl rfl rfl ?_; refine zd ?_; refine zo ?_; refine zq ?_; refine nz ?_; refine zm ?_; refine zn ?_; refine zm ?_; refine zd ?_; refine AW.block ?_)
  (refine nz ?_; apply AW.loopR [10, 9, 2] [] (fun k : Nat => ([(11, litI k), (3, .own 0 3 1 ((invTo perm k).map encI))] : List (Nat × AV))) (fun k : Nat => ([(0, some .row)] : List (Nat × Option Ob))) (fun k : Nat => k ≤ perm.length) (fun k : Nat => perm.length - k) (0); (conv => lhs; simp only [Nf.lpR, Nf.all, Nat.reduceBEq, reduceAdd, reduceSub]); (all_goals skip))
  · exact Nat.zero_le _
  · exact weak rfl (by (refine ⟨.intE (by first | with_reducible rfl | (first | rfl | (rw [invTo_zero, List.map_replicate]; rfl) | (show List.replicate _ _ = List.map encI _; rw [invTo_zero, List.map_replicate, Int.toNat_natCast]; rfl))), ?_⟩; refine ⟨.ownE (by first | with_reducible rfl | (first | rfl | (rw [invTo_zero, List.map_replicate]; rfl) | (show List.replicate _ _ = List.map encI _; rw [invTo_zero, List.map_replicate, Int.toNat_natCast]; rfl))) rfl, ?_⟩; refine ⟨.intE (by first | with_reducible rfl | (first | rfl | (rw [invTo_zero, List.map_replicate]; rfl) | (show List.replicate _ _ = List.map encI _; rw [invTo_zero, List.map_replicate, Int.toNat_natCast]; rfl))), ?_⟩; refine ⟨.pvE (by first | with_reducible rfl | (first | rfl | (rw [invTo_zero, List.map_replicate]; rfl) | (show List.replicate _ _ = List.map encI _; rw [invTo_zero, List.map_replicate, Int.toNat_natCast]; rfl))), ?_⟩; refine ⟨.eq rfl rfl, ?_⟩; exact trivial)) (by (refine ⟨.row rfl, ?_⟩; exact trivial)) rfl
  rintro k hk
  have hil := invTo_len perm k
  by_cases hlt : k < perm.length
  · have hst := invTo_set h hlt
    have hr := h.rng _ (List.getElem_mem hlt)
    (refine zq ?_; refine zs ?_; refine zd ?_; refine zo ?_; refine zc ?_; refine AW.skip ?_; refine thenD_n ?_; refine zo ?_; refine AW.block ?_; refine zq ?_; refine nz ?_; refine zm ?_; (focus ((with_reducible apply AOps.index_map); (iterate 7 exact rfl); rotate_left; omega)); refine zr ?_; (iterate 2 refine za ?_); refine zd ?_; refine AW.region ?_; refine nz ?_; refine AOps.move_own rfl rfl rfl ?_; refine zm ?_; refine AOps.sub rfl rfl rfl rfl rfl (by omega) ?_; refine zm ?_; refine AOps.add rfl rfl rfl rfl rfl (by omega) ?_; refine AOps.index_own_mapI rfl rfl rfl rfl rfl rfl rfl (by omega) (by omega) ?_; refine AOps.store_o1 rfl rfl rfl rfl rfl rfl rfl rfl ?_; refine AOps.nil ?_; refine inBlockD_n ?_; refine thenD_n ?_; refine AW.region ?_; refine nz ?_; refine AOps.add rfl rfl rfl rfl rfl (by omega) ?_; refine zm ?_; refine zd ?_)
    exact ⟨k + 1, by omega, by omega, weak rfl (by (refine ⟨.intE (by first | with_reducible rfl | (first | rfl | (rw [setI1, hst]))), ?_⟩; refine ⟨.ownE (by first | with_reducible rfl | (first | rfl | (rw [setI1, hst]))) rfl, ?_⟩; refine ⟨.intE (by first | with_reducible rfl | (first | rfl | (rw [setI1, hst]))), ?_⟩; refine ⟨.pvE (by first | with_reducible rfl | (first | rfl | (rw [setI1, hst]))), ?_⟩; refine ⟨.eq rfl rfl, ?_⟩; exact trivial)) (by (refine ⟨.row rfl, ?_⟩; exact trivial)) rfl⟩
  · obtain rfl : k = perm.length := by omega
    rw [invTo_all h]
    (refine zq ?_; refine zs ?_; refine zd ?_; refine zo ?_; refine zk ?_; refine AW.exit ?_; (iterate 2 refine thenD_exit ?_); refine inBlockD_exit ?_; refine thenD_n ?_; refine zq ?_; refine nz ?_; refine AOps.move_own rfl rfl rfl ?_; refine AOps.assign_own rfl rfl rfl ?_; refine zd ?_; refine AW.ret ?_)
    (apply ends_ret; (exact Res.one (.tmp rfl rfl)); (exact Le.own _ _ _ _ rfl))
abbrev bO (gs : List GateM) : List (Nat × Option Ob) := [(0, some (.box [.pv (gatesV gs)]))]
theorem bInput_fn (gs : List GateM) (v : Int) (hl : gs.length ≤ 1000000) (hne : 0 < gs.length) : FnX Try.prog 56 1 (bO gs) [.ptr 0 0, litI v] (bO (inputG gs v).1) (litI (inputG gs v).2) := by
  have hi := pInput_fn gs v hl hne
  generalize inputG gs v = p at hi ⊢
  obtain ⟨gs', r⟩ := p
  simp only at hi ⊢
  refine FnX.enter (n := 21) Try.func56 rfl rfl rfl rfl rfl (by decide) rfl rfl fun g hro_ hwt_ => ?_; (conv => rhs; simp only [Nf.en0, Nf.en1, Nf.pi0, Nf.pir, Nf.pib, Nf.pim, Nf.cn, Nf.nn, Nat.reduceAdd, Nat.zero_add])
  (refine zq ?_; refine za ?_; refine zd ?_; refine zq ?_; refine nz ?_; refine AOps.move_ptr rfl rfl rfl ?_; refine AOps.nilCheck_ptr rfl rfl rfl ?_; refine AOps.fieldAddrN 79 0 0 rfl rfl rfl rfl ?_; refine AOps.load_ball rfl rfl rfl rfl rfl ?_; refine nz ?_; refine zm ?_; (with_reducible apply AOps.callp (hi)); (repeat (first | exact .nil | (refine .cons rfl ?_ ?_; (first | exact .pv _ | exact .own _ _ _ _ rfl | exact .nil _ | exact .any _ | exact .rptr _ | (refine .aggL ?_; repeat (first | exact .nil | (refine .cons ?_ ?_; (first | exact .pv _ | exact .own _ _ _ _ rfl | exact .nil _)))))))); exact rfl; refine AOps.move_tup rfl rfl rfl ?_; (iterate 2 refine AOps.extract rfl rfl rfl rfl ?_); refine AOps.allocN' rfl rfl rfl rfl ?_; refine nz ?_; refine AOps.store_bn rfl rfl rfl rfl rfl rfl rfl rfl rfl (by with_reducible assumption) ?_; refine nz ?_; refine za ?_; refine zd ?_; refine zq ?_; refine nz ?_; refine AOps.move_ptr rfl rfl rfl ?_; refine AOps.load_ball rfl rfl rfl rfl rfl ?_; refine nz ?_; refine AOps.nilCheck_ptr rfl rfl rfl ?_; refine AOps.fieldAddrN 79 0 0 rfl rfl rfl rfl ?_; refine AOps.store_bn rfl rfl rfl rfl rfl rfl rfl rfl rfl (by with_reducible assumption) ?_; refine nz ?_; refine zd ?_; refine zq ?_; refine zm ?_; refine za ?_; refine zd ?_; refine AW.ret ?_)
  (apply endsX_ret; ((exact Res.one (.tmp rfl rfl))); ((refine ⟨.intE (by first | with_reducible rfl | (rfl)), ?_⟩; refine ⟨.eq rfl rfl, ?_⟩; exact trivial)); ((refine ⟨.box _ rfl ?_, ?_⟩; refine ⟨.pvE (by first | with_reducible rfl | (rfl)), ?_⟩; (iterate 2 exact trivial))); exact rfl)
theorem bAnd_fn (gs : List GateM) (a b : Int) (hl : gs.length ≤ 400000) (hne : 0 < gs.length) (ha : -1000000 ≤ a ∧ a ≤ 1000000) (hb : -1000000 ≤ b ∧ b ≤ 1000000) : FnX Try.prog 39 1 (bO gs) [.ptr 0 0, litI a, litI b] (bO (andG gs a b).1) (litI (andG gs a b).2) := by
  have hi := pAnd_fn gs a b hl hne ha hb
  generalize andG gs a b = p at hi ⊢
  obtain ⟨gs', r⟩ := p
  simp only at hi ⊢
  refine FnX.enter (n := 24) Try.func39 rfl rfl rfl rfl rfl (by decide) rfl rfl fun g hro_ hwt_ => ?_; (conv => rhs; simp only [Nf.en0, Nf.en1, Nf.pi0, Nf.pir, Nf.pib, Nf.pim, Nf.cn, Nf.nn, Nat.reduceAdd, Nat.zero_add])
  (refine zq ?_; refine za ?_; refine zd ?_; refine zq ?_; refine nz ?_; refine AOps.move_ptr rfl rfl rfl ?_; refine AOps.nilCheck_ptr rfl rfl rfl ?_; refine AOps.fieldAddrN 79 0 0 rfl rfl rfl rfl ?_; refine AOps.load_ball rfl rfl rfl rfl rfl ?_; refine nz ?_; (iterate 2 refine zm ?_); (with_reducible apply AOps.callp (hi)); (repeat (first | exact .nil | (refine .cons rfl ?_ ?_; (first | exact .pv _ | exact .own _ _ _ _ rfl | exact .nil _ | exact .any _ | exact .rptr _ | (refine .aggL ?_; repeat (first | exact .nil | (refine .cons ?_ ?_; (first | exact .pv _ | exact .own _ _ _ _ rfl | exact .nil _)))))))); exact rfl; refine AOps.move_tup rfl rfl rfl ?_; (iterate 2 refine AOps.extract rfl rfl rfl rfl ?_); refine AOps.allocN' rfl rfl rfl rfl ?_; refine nz ?_; refine AOps.store_bn rfl rfl rfl rfl rfl rfl rfl rfl rfl (by with_reducible assumption) ?_; refine nz ?_; refine za ?_; refine zd ?_; refine zq ?_; refine nz ?_; refine AOps.move_ptr rfl rfl rfl ?_; refine AOps.load_ball rfl rfl rfl rfl rfl ?_; refine nz ?_; refine AOps.nilCheck_ptr rfl rfl rfl ?_; refine AOps.fieldAddrN 79 0 0 rfl rfl rfl rfl ?_; refine AOps.store_bn rfl rfl rfl rfl rfl rfl rfl rfl rfl (by with_reducible assumption) ?_; refine nz ?_; refine zd ?_; refine zq ?_; refine zm ?_; refine za ?_; refine zd ?_; refine AW.ret ?_)
  (apply endsX_ret; ((exact Res.one (.tmp rfl rfl))); ((refine ⟨.intE (by first | with_reducible rfl | (rfl)), ?_⟩; refine ⟨.eq rfl rfl, ?_⟩; exact trivial)); ((refine ⟨.box _ rfl ?_, ?_⟩; refine ⟨.pvE (by first | with_reducible rfl | (rfl)), ?_⟩; (iterate 2 exact trivial))); exact rfl)
theorem bOr_fn (gs : List GateM) (a b : Int) (hl : gs.length ≤ 100000) (hne : 0 < gs.length) (ha : -500000 ≤ a ∧ a ≤ 500000) (hb : -500000 ≤ b ∧ b ≤ 500000) : FnX Try.prog 58 1 (bO gs) [.ptr 0 0, litI a, litI b] (bO (orG gs a b).1) (litI (orG gs a b).2) := by
  have h1 := pNot_fn a (by omega)
  have h2 := pNot_fn b (by omega)
  have b1 := notR_b ha
  have b2 := notR_b hb
  have h3 := bAnd_fn gs (notR a) (notR b) (by omega) hne (by omega) (by omega)
  have q3 := andG_b (gs := gs) (a := notR a) (b := notR b) (by omega) (by omega) (by omega)
  unfold orG
  generalize andG gs (notR a) (notR b) = p at h3 q3 ⊢
  generalize notR a = na at h1 h3 b1
  generalize notR b = nb at h2 h3 b2
  obtain ⟨gs', r⟩ := p
  simp only at h3 q3 ⊢
  have h4 := pNot_fn r (by omega)
  generalize notR r = nr at h4 ⊢
  refine FnX.enter (n := 14) Try.func58 rfl rfl rfl rfl rfl (by decide) rfl rfl fun g hro_ hwt_ => ?_; (conv => rhs; simp only [Nf.en0, Nf.en1, Nf.pi0, Nf.pir, Nf.pib, Nf.pim, Nf.cn, Nf.nn, Nat.reduceAdd, Nat.zero_add])
  (refine zq ?_; refine za ?_; refine zd ?_; refine zq ?_; refine nz ?_; refine AOps.move_ptr rfl rfl rfl ?_; refine zm ?_; (with_reducible apply AOps.call (h1)); (repeat (first | exact .nil | (refine .cons rfl ?_ ?_; (first | exact .pv _ | exact .own _ _ _ _ rfl | exact .nil _ | exact .any _ | exact .rptr _ | (refine .aggL ?_; repeat (first | exact .nil | (refine .cons ?_ ?_; (first | exact .pv _ | exact .own _ _ _ _ rfl | exact .nil _)))))))); exact rfl; exact rfl; exact (fun h_ => by cases h_); refine zm ?_; (with_reducible apply AOps.call (h2)); (repeat (first | exact .nil | (refine .cons rfl ?_ ?_; (first | exact .pv _ | exact .own _ _ _ _ rfl | exact .nil _ | exact .any _ | exact .rptr _ | (refine .aggL ?_; repeat (first | exact .nil | (refine .cons ?_ ?_; (first | exact .pv _ | exact .own _ _ _ _ rfl | exact .nil _)))))))); exact rfl; exact rfl; exact (fun h_ => by cases h_); (with_reducible apply AOps.callX (hf := h3)); (with_reducible assumption); (iterate 3 exact rfl); (repeat (first | exact trivial | refine ⟨rfl, ?_⟩)); (repeat (first | exact .nil | (refine .cons ?_ ?_; (first | exact .eq rfl rfl | exact .nil _ | exact .any _)))); exact rfl; exact rfl; (repeat (first | exact trivial | refine ⟨rfl, ?_⟩ | refine ⟨obIds_set, ?_⟩)); (repeat (first | exact trivial | refine ⟨rfl, ?_⟩ | refine ⟨obIds_set, ?_⟩)); exact rfl; exact rfl; (conv => rhs; simp only [Nf.af, Nf.xe0, Nf.xe1, Nf.xo0, Nf.xon, Nf.xor, Nf.xob, Nf.xom, Nf.xoi, Nf.xol, Nf.xop, Nf.xl0, Nf.xl1, Nf.xk_any, Nf.xk_pv, Nf.xk_ptr, Nf.xk_rptr, Nf.xk_mapr, Nf.xk_yld, Nf.xk_own, Nf.xk_optr, Nf.xk_agg, Nf.xk_tup, Nf.xk_clo, Nf.rw0, Nf.rwr, Nf.rwb, Nf.rwm, Nf.cn, Nf.nn, memN0, memN1, Nat.reduceBEq, cond_true, cond_false]); refine nz ?_; (with_reducible apply AOps.call (h4)); (repeat (first | exact .nil | (refine .cons rfl ?_ ?_; (first | exact .pv _ | exact .own _ _ _ _ rfl | exact .nil _ | exact .any _ | exact .rptr _ | (refine .aggL ?_; repeat (first | exact .nil | (refine .cons ?_ ?_; (first | exact .pv _ | exact .own _ _ _ _ rfl | exact .nil _)))))))); exact rfl; exact rfl; exact (fun h_ => by cases h_); refine za ?_; refine zd ?_; refine AW.ret ?_)
  (apply endsX_ret; ((exact Res.one (.tmp rfl rfl))); ((refine ⟨.intE (by first | with_reducible rfl | (rfl)), ?_⟩; refine ⟨.eq rfl rfl, ?_⟩; exact trivial)); ((refine ⟨.box _ rfl ?_, ?_⟩; refine ⟨.pvE (by first | with_reducible rfl | (rfl)), ?_⟩; (iterate 2 exact trivial))); exact rfl)
end Go.Ab
/- Chapter 19: a reference's value, walked: the reference's Eval and the program's. -/
namespace Go.Ab
open Go Go.Proofs
open Nat (reduceAdd reduceSub)
set_option maxRecDepth 20000
set_option maxHeartbeats 4000000
attribute [local irreducible] AW AOps thenD inBlockD AR iterEnds roundEndsN inlEnds noGotoD
theorem doneG_take (gs : List GateM) (vals : List Bool) {i : Nat} (h : i < gs.length) : doneG gs vals (i + 1) = doneG gs vals i ++ [gateV vals (doneG gs vals i) gs[i]] := by
  rw [doneG, List.getD_eq_getElem?_getD, List.getElem?_eq_getElem h]; rfl
/-- a gate's kind. -/
theorem CirOk.cases {gs : List GateM} (hc : CirOk gs) {i : Nat} (h : i < gs.length) : (gs[i].k = 0) ∨ (gs[i].k = 1 ∧ 1 ≤ gs[i].a ∧ gs[i].a ≤ 1000) ∨ (gs[i].k = 2 ∧ 2 ≤ gs[i].a ∧ gs[i].a < gs[i].b ∧ gs[i].b < 2 * (i : Int)) := by
  by_cases h0 : i = 0
  · subst h0
    have := hc.zero
    rw [List.getElem?_eq_getElem h] at this
    rw [Option.some.inj this]
    exact .inl rfl
  · rcases hc.ok i h h0 with h1 | h1
    · exact .inr (.inl ⟨h1.1, h1.2.1, h1.2.2.1⟩)
    · exact .inr (.inr ⟨h1.1, h1.2.1, h1.2.2.1, h1.2.2.2.1⟩)
theorem inV_at {vals : List Bool} {a : Int} (h : 1 ≤ a) (h2 : a ≤ (vals.length : Int)) : inV vals a = vals[(a - 1).toNat]'(by omega) := by
  unfold inV
  rw [List.getD_eq_getElem?_getD, List.getElem?_eq_getElem (by omega)]; rfl
theorem inV_out {vals : List Bool} {a : Int} (h : 1 ≤ a) (h2 : ¬ a ≤ (vals.length : Int)) : inV vals a = false := by
  unfold inV
  rw [List.getD_eq_getElem?_getD, List.getElem?_eq_none (by omega)]; rfl
theorem refV_at {done : List Bool} {r : Int} (h : 0 ≤ r) (h2 : r < 2 * (done.length : Int)) : refV done r = decide (done[(r / 2).toNat]'(by omega) = decide (r % 2 = 0)) := by
  unfold refV
  rw [List.getD_eq_getElem?_getD, List.getElem?_eq_getElem (by omega)]
  simp only [Option.getD_some]
  cases done[(r / 2).toNat]'(by omega) <;> cases decide (r % 2 = 0) <;> rfl
theorem evalG_done (gs : List GateM) (vals : List Bool) {r : Int} (h0 : 0 ≤ r) {d : List Bool} (hd : d = doneG gs vals ((r / 2).toNat + 1)) : ∃ h : (r / 2).toNat < d.length, evalG gs vals r = decide (d[(r / 2).toNat] = decide (r % 2 = 0)) := by
  subst hd
  refine ⟨by rw [doneG_len]; omega, ?_⟩
  rw [← refV_done gs vals (m := (r / 2).toNat + 1) h0 (by omega)]
  exact refV_at h0 (by rw [doneG_len]; omega)
theorem eval_fn (gs : List GateM) (vals : List Bool) (r : Int) (hc : CirOk gs) (hr : RefOk gs r) (hl : gs.length ≤ 100000) (hv : vals.length ≤ 100000) : Fn Try.prog 13 [crc gs, .pv (bools vals), litI r] (litB (evalG gs vals r)) := by
  have hr0 := hr
  unfold RefOk at hr
  refine Fn.enter (n := 92) Try.func13 rfl rfl rfl rfl rfl (by decide) fun g hro_ hwt_ => ?_; (try refine nz ?_)
  have p1 : ¬ r < 0 := by omega
  have p2 : ¬ 2 * (gs.length : Int) ≤ r := by omega
  (refine zq ?_; refine AOps.box rfl rfl rfl rfl ?_; refine nz ?_; refine za ?_; refine zd ?_; refine zo ?_; refine zq ?_; refine nz ?_; refine zm ?_; refine zs ?_; refine zm ?_; refine AOps.guardFy rfl rfl rfl rfl rfl rfl (by with_reducible assumption) ?_; refine zm ?_; refine AOps.guardFy rfl rfl rfl rfl rfl rfl (by with_reducible assumption) ?_; refine AOps.fieldAddrN 31 0 0 rfl rfl rfl rfl ?_; refine AOps.guardFy rfl rfl rfl rfl rfl rfl (by with_reducible assumption) ?_; refine zb ?_; refine AOps.guardFy rfl rfl rfl rfl rfl rfl (by with_reducible assumption) ?_; refine zn ?_; refine AOps.guardFy rfl rfl rfl rfl rfl rfl (by with_reducible assumption) ?_; refine AOps.mul rfl rfl rfl rfl rfl (by omega) ?_; refine AOps.guardFy rfl rfl rfl rfl rfl rfl (by with_reducible assumption) ?_; refine AOps.geq rfl rfl rfl rfl rfl ?_; refine AOps.pickF_pv rfl rfl (by with_reducible assumption) rfl rfl rfl rfl ?_; refine zd ?_; refine AW.condN rfl rfl (by with_reducible assumption) ?_; refine AW.skip ?_; refine thenD_n ?_; refine zq ?_; refine nz ?_; refine za ?_; refine zd ?_; refine zo ?_; refine zq ?_; refine nz ?_; refine za ?_; refine zd ?_; refine AW.block ?_)
  (refine nz ?_; apply AW.loopR [6, 3, 1, 2] [0] (fun i : Nat => ([(8, litI i), (7, .own 1 4 1 ((doneG gs vals i).map encB))] : List (Nat × AV))) (fun i : Nat => ([(1, some .row)] : List (Nat × Option Ob))) (fun i : Nat => i ≤ (r / 2).toNat + 1) (fun i : Nat => (r / 2).toNat + 1 - i) (0); (conv => lhs; simp only [Nf.lpR, Nf.all, Nat.reduceBEq, reduceAdd, reduceSub]); (all_goals skip))
  · exact Nat.zero_le _
  · exact weak rfl (by (refine ⟨.eq rfl rfl, ?_⟩; refine ⟨.nilown _ _ _ rfl rfl, ?_⟩; (iterate 4 refine ⟨.eq rfl rfl, ?_⟩); exact trivial)) (by (refine ⟨.newrow rfl, ?_⟩; refine ⟨.box _ rfl ?_, ?_⟩; refine ⟨.eq rfl rfl, ?_⟩; (iterate 2 exact trivial))) rfl
  rintro i hi
  have hdl := doneG_len gs vals i
  by_cases hlt : i < (r / 2).toNat + 1
  · have hig : i < gs.length := by omega
    have hdt := doneG_take gs vals hig
    have hi2 : (i : Int) ≤ r / 2 := by omega
    generalize doneG gs vals i = d at hdl hdt ⊢
    rcases hc.cases hig with k0 | ⟨k1, a1, a2⟩ | ⟨k2, a1, a2, a3⟩
    · have n1 : ¬ gs[i].k = 1 := by omega
      have n2 : ¬ gs[i].k = 2 := by omega
      have e : gateV vals d gs[i] = true := by unfold gateV; rw [if_neg n1, if_neg n2]
      rw [e] at hdt
      (refine zo ?_; refine zq ?_; (iterate 2 refine zm ?_); refine AOps.quoE rfl rfl rfl rfl rfl (by omega) ?_; refine AOps.leq rfl rfl rfl rfl rfl ?_; refine zd ?_; refine AW.condY rfl rfl (by with_reducible assumption) ?_; refine AW.skip ?_; refine thenD_n ?_; refine zo ?_; refine AW.block ?_; refine zq ?_; refine nz ?_; refine AOps.fieldAddrN 31 0 0 rfl rfl rfl rfl ?_; refine zb ?_; refine zm ?_; (focus ((with_reducible apply AOps.index_map); (iterate 7 exact rfl); rotate_left; omega)); refine AOps.load_rn rfl rfl rfl rfl ?_; refine nz ?_; refine AOps.allocN' rfl rfl rfl rfl ?_; refine nz ?_; refine AOps.store_bn rfl rfl rfl rfl rfl rfl rfl rfl rfl (by with_reducible assumption) ?_; refine nz ?_; refine zd ?_; refine zq ?_; refine za ?_; refine zd ?_; refine zo ?_; refine zq ?_; refine nz ?_; refine AOps.fieldAddrN 82 0 0 rfl rfl rfl rfl ?_; refine zb ?_; refine AOps.eql rfl rfl rfl rfl rfl ?_; refine zd ?_; refine AW.condN rfl rfl (by with_reducible assumption) ?_; refine AW.skip ?_; refine thenD_n ?_; refine zo ?_; refine zq ?_; refine nz ?_; refine AOps.fieldAddrN 82 0 0 rfl rfl rfl rfl ?_; refine zb ?_; refine AOps.eql rfl rfl rfl rfl rfl ?_; refine zd ?_; refine AW.condN rfl rfl (by with_reducible assumption) ?_; refine AW.skip ?_; refine thenD_n ?_; refine AW.region ?_; refine nz ?_; refine AOps.move_own rfl rfl rfl ?_; refine zm ?_; refine AOps.bs1 rfl rfl rfl rfl rfl rfl rfl rfl ?_; refine nz ?_; (with_reducible apply AOps.appendS); exact rfl; (first | exact .pv rfl | exact .own rfl | exact .nil rfl); (iterate 9 exact rfl); (first | omega | (simp only [List.length_map, List.length_append, List.length_cons, List.length_nil, List.length_drop, List.length_take, List.length_set, chunk_len]; omega)); refine nz ?_; refine AOps.assign_own rfl rfl rfl ?_; refine AOps.nil ?_; refine inBlockD_n ?_; refine thenD_n ?_; refine AW.region ?_; refine nz ?_; refine zm ?_; refine AOps.add rfl rfl rfl rfl rfl (by omega) ?_; refine za ?_; refine zd ?_)
      exact ⟨i + 1, by omega, by omega, weak rfl (by (refine ⟨.intE (by first | with_reducible rfl | (first | rfl | (rw [hdt, List.map_append]; rfl))), ?_⟩; refine ⟨.ownE (by first | with_reducible rfl | (first | rfl | (rw [hdt, List.map_append]; rfl))) rfl, ?_⟩; refine ⟨.boolE (by first | with_reducible rfl | (first | rfl | (rw [hdt, List.map_append]; rfl))), ?_⟩; refine ⟨.eq rfl rfl, ?_⟩; refine ⟨.pvE (by first | with_reducible rfl | (first | rfl | (rw [hdt, List.map_append]; rfl))), ?_⟩; refine ⟨.intE (by first | with_reducible rfl | (first | rfl | (rw [hdt, List.map_append]; rfl))), ?_⟩; exact trivial)) (by (refine ⟨.row rfl, ?_⟩; refine ⟨.box _ rfl ?_, ?_⟩; refine ⟨.pvE (by first | with_reducible rfl | (first | rfl | (rw [hdt, List.map_append]; rfl))), ?_⟩; (iterate 2 exact trivial))) rfl⟩
    · have n2 : ¬ gs[i].k = 2 := by omega
      have e : gateV vals d gs[i] = inV vals gs[i].a := by unfold gateV; rw [if_pos k1]
      rw [e] at hdt
      by_cases hle : gs[i].a ≤ (vals.length : Int)
      · rw [inV_at a1 hle] at hdt
        (refine zo ?_; refine zq ?_; (iterate 2 refine zm ?_); refine AOps.quoE rfl rfl rfl rfl rfl (by omega) ?_; refine AOps.leq rfl rfl rfl rfl rfl ?_; refine zd ?_; refine AW.condY rfl rfl (by with_reducible assumption) ?_; refine AW.skip ?_; refine thenD_n ?_; refine zo ?_; refine AW.block ?_; refine zq ?_; refine nz ?_; refine AOps.fieldAddrN 31 0 0 rfl rfl rfl rfl ?_; refine zb ?_; refine zm ?_; (focus ((with_reducible apply AOps.index_map); (iterate 7 exact rfl); rotate_left; omega)); refine AOps.load_rn rfl rfl rfl rfl ?_; refine nz ?_; refine AOps.allocN' rfl rfl rfl rfl ?_; refine nz ?_; refine AOps.store_bn rfl rfl rfl rfl rfl rfl rfl rfl rfl (by with_reducible assumption) ?_; refine nz ?_; refine zd ?_; refine zq ?_; refine za ?_; refine zd ?_; refine zo ?_; refine zq ?_; refine nz ?_; refine AOps.fieldAddrN 82 0 0 rfl rfl rfl rfl ?_; refine zb ?_; refine AOps.eql rfl rfl rfl rfl rfl ?_; refine zd ?_; refine AW.condY rfl rfl (by with_reducible assumption) ?_; refine AW.region ?_; refine nz ?_; refine AOps.fieldAddrN 82 1 1 rfl rfl rfl rfl ?_; refine zb ?_; refine zm ?_; refine zn ?_; refine AOps.leq rfl rfl rfl rfl rfl ?_; refine zm ?_; refine AOps.guardTy rfl rfl rfl rfl rfl rfl (by with_reducible assumption) ?_; refine zm ?_; refine AOps.guardTy rfl rfl rfl rfl rfl rfl (by with_reducible assumption) ?_; refine AOps.fieldAddrN 82 1 1 rfl rfl rfl rfl ?_; refine AOps.guardTy rfl rfl rfl rfl rfl rfl (by with_reducible assumption) ?_; refine zb ?_; refine AOps.guardTy rfl rfl rfl rfl rfl rfl (by with_reducible assumption) ?_; refine AOps.sub rfl rfl rfl rfl rfl (by omega) ?_; refine AOps.guardTy rfl rfl rfl rfl rfl rfl (by with_reducible assumption) ?_; (focus ((with_reducible apply AOps.index_mapI); (iterate 7 exact rfl); omega; rotate_left; (first | omega | exact Nat.zero_lt_one | exact (by simp)))); refine AOps.guardTy rfl rfl rfl rfl rfl rfl (by with_reducible assumption) ?_; refine zr ?_; refine AOps.pickT_pv rfl rfl (by with_reducible assumption) rfl rfl rfl rfl ?_; refine za ?_; refine zd ?_; refine zo ?_; refine zq ?_; refine nz ?_; refine AOps.fieldAddrN 82 0 0 rfl rfl rfl rfl ?_; refine zb ?_; refine AOps.eql rfl rfl rfl rfl rfl ?_; refine zd ?_; refine AW.condN rfl rfl (by with_reducible assumption) ?_; refine AW.skip ?_; refine thenD_n ?_; refine AW.region ?_; refine nz ?_; refine AOps.move_own rfl rfl rfl ?_; refine zm ?_; refine AOps.bs1 rfl rfl rfl rfl rfl rfl rfl rfl ?_; refine nz ?_; (with_reducible apply AOps.appendS); exact rfl; (first | exact .pv rfl | exact .own rfl | exact .nil rfl); (iterate 9 exact rfl); (first | omega | (simp only [List.length_map, List.length_append, List.length_cons, List.length_nil, List.length_drop, List.length_take, List.length_set, chunk_len]; omega)); refine nz ?_; refine AOps.assign_own rfl rfl rfl ?_; refine AOps.nil ?_; refine inBlockD_n ?_; refine thenD_n ?_; refine AW.region ?_; refine nz ?_; refine zm ?_; refine AOps.add rfl rfl rfl rfl rfl (by omega) ?_; refine za ?_; refine zd ?_)
        exact ⟨i + 1, by omega, by omega, weak rfl (by (refine ⟨.intE (by first | with_reducible rfl | (first | rfl | (rw [hdt, List.map_append]; rfl))), ?_⟩; refine ⟨.ownE (by first | with_reducible rfl | (first | rfl | (rw [hdt, List.map_append]; rfl))) rfl, ?_⟩; refine ⟨.boolE (by first | with_reducible rfl | (first | rfl | (rw [hdt, List.map_append]; rfl))), ?_⟩; refine ⟨.eq rfl rfl, ?_⟩; refine ⟨.pvE (by first | with_reducible rfl | (first | rfl | (rw [hdt, List.map_append]; rfl))), ?_⟩; refine ⟨.intE (by first | with_reducible rfl | (first | rfl | (rw [hdt, List.map_append]; rfl))), ?_⟩; exact trivial)) (by (refine ⟨.row rfl, ?_⟩; refine ⟨.box _ rfl ?_, ?_⟩; refine ⟨.pvE (by first | with_reducible rfl | (first | rfl | (rw [hdt, List.map_append]; rfl))), ?_⟩; (iterate 2 exact trivial))) rfl⟩
      · rw [inV_out a1 hle] at hdt
        (refine zo ?_; refine zq ?_; (iterate 2 refine zm ?_); refine AOps.quoE rfl rfl rfl rfl rfl (by omega) ?_; refine AOps.leq rfl rfl rfl rfl rfl ?_; refine zd ?_; refine AW.condY rfl rfl (by with_reducible assumption) ?_; refine AW.skip ?_; refine thenD_n ?_; refine zo ?_; refine AW.block ?_; refine zq ?_; refine nz ?_; refine AOps.fieldAddrN 31 0 0 rfl rfl rfl rfl ?_; refine zb ?_; refine zm ?_; (focus ((with_reducible apply AOps.index_map); (iterate 7 exact rfl); rotate_left; omega)); refine AOps.load_rn rfl rfl rfl rfl ?_; refine nz ?_; refine AOps.allocN' rfl rfl rfl rfl ?_; refine nz ?_; refine AOps.store_bn rfl rfl rfl rfl rfl rfl rfl rfl rfl (by with_reducible assumption) ?_; refine nz ?_; refine zd ?_; refine zq ?_; refine za ?_; refine zd ?_; refine zo ?_; refine zq ?_; refine nz ?_; refine AOps.fieldAddrN 82 0 0 rfl rfl rfl rfl ?_; refine zb ?_; refine AOps.eql rfl rfl rfl rfl rfl ?_; refine zd ?_; refine AW.condY rfl rfl (by with_reducible assumption) ?_; refine AW.region ?_; refine nz ?_; refine AOps.fieldAddrN 82 1 1 rfl rfl rfl rfl ?_; refine zb ?_; refine zm ?_; refine zn ?_; refine AOps.leq rfl rfl rfl rfl rfl ?_; refine zm ?_; (iterate 6 refine AOps.guardTn rfl rfl rfl rfl rfl rfl (by with_reducible assumption) ?_); refine AOps.pickF_pv rfl rfl (by with_reducible assumption) rfl rfl rfl rfl ?_; refine za ?_; refine zd ?_; refine zo ?_; refine zq ?_; refine nz ?_; refine AOps.fieldAddrN 82 0 0 rfl rfl rfl rfl ?_; refine zb ?_; refine AOps.eql rfl rfl rfl rfl rfl ?_; refine zd ?_; refine AW.condN rfl rfl (by with_reducible assumption) ?_; refine AW.skip ?_; refine thenD_n ?_; refine AW.region ?_; refine nz ?_; refine AOps.move_own rfl rfl rfl ?_; refine zm ?_; refine AOps.bs1 rfl rfl rfl rfl rfl rfl rfl rfl ?_; refine nz ?_; (with_reducible apply AOps.appendS); exact rfl; (first | exact .pv rfl | exact .own rfl | exact .nil rfl); (iterate 9 exact rfl); (first | omega | (simp only [List.length_map, List.length_append, List.length_cons, List.length_nil, List.length_drop, List.length_take, List.length_set, chunk_len]; omega)); refine nz ?_; refine AOps.assign_own rfl rfl rfl ?_; refine AOps.nil ?_; refine inBlockD_n ?_; refine thenD_n ?_; refine AW.region ?_; refine nz ?_; refine zm ?_; refine AOps.add rfl rfl rfl rfl rfl (by omega) ?_; refine za ?_; refine zd ?_)
        exact ⟨i + 1, by omega, by omega, weak rfl (by (refine ⟨.intE (by first | with_reducible rfl | (first | rfl | (rw [hdt, List.map_append]; rfl))), ?_⟩; refine ⟨.ownE (by first | with_reducible rfl | (first | rfl | (rw [hdt, List.map_append]; rfl))) rfl, ?_⟩; refine ⟨.boolE (by first | with_reducible rfl | (first | rfl | (rw [hdt, List.map_append]; rfl))), ?_⟩; refine ⟨.eq rfl rfl, ?_⟩; refine ⟨.pvE (by first | with_reducible rfl | (first | rfl | (rw [hdt, List.map_append]; rfl))), ?_⟩; refine ⟨.intE (by first | with_reducible rfl | (first | rfl | (rw [hdt, List.map_append]; rfl))), ?_⟩; exact trivial)) (by (refine ⟨.row rfl, ?_⟩; refine ⟨.box _ rfl ?_, ?_⟩; refine ⟨.pvE (by first | with_reducible rfl | (first | rfl | (rw [hdt, List.map_append]; rfl))), ?_⟩; (iterate 2 exact trivial))) rfl⟩
    · have n1 : ¬ gs[i].k = 1 := by omega
      have e : gateV vals d gs[i] = (refV d gs[i].a && refV d gs[i].b) := by unfold gateV; rw [if_neg n1, if_pos k2]
      rw [e, refV_at (r := gs[i].a) (by omega) (by omega), refV_at (r := gs[i].b) (by omega) (by omega)] at hdt
      by_cases c1 : d[(gs[i].a / 2).toNat]'(by omega) = decide (gs[i].a % 2 = 0)
      · rw [decide_eq_true c1, Bool.true_and] at hdt
        have c1' := decide_eq_true c1
        (refine zo ?_; refine zq ?_; (iterate 2 refine zm ?_); refine AOps.quoE rfl rfl rfl rfl rfl (by omega) ?_; refine AOps.leq rfl rfl rfl rfl rfl ?_; refine zd ?_; refine AW.condY rfl rfl (by with_reducible assumption) ?_; refine AW.skip ?_; refine thenD_n ?_; refine zo ?_; refine AW.block ?_; refine zq ?_; refine nz ?_; refine AOps.fieldAddrN 31 0 0 rfl rfl rfl rfl ?_; refine zb ?_; refine zm ?_; (focus ((with_reducible apply AOps.index_map); (iterate 7 exact rfl); rotate_left; omega)); refine AOps.load_rn rfl rfl rfl rfl ?_; refine nz ?_; refine AOps.allocN' rfl rfl rfl rfl ?_; refine nz ?_; refine AOps.store_bn rfl rfl rfl rfl rfl rfl rfl rfl rfl (by with_reducible assumption) ?_; refine nz ?_; refine zd ?_; refine zq ?_; refine za ?_; refine zd ?_; refine zo ?_; refine zq ?_; refine nz ?_; refine AOps.fieldAddrN 82 0 0 rfl rfl rfl rfl ?_; refine zb ?_; refine AOps.eql rfl rfl rfl rfl rfl ?_; refine zd ?_; refine AW.condN rfl rfl (by with_reducible assumption) ?_; refine AW.skip ?_; refine thenD_n ?_; refine zo ?_; refine zq ?_; refine nz ?_; refine AOps.fieldAddrN 82 0 0 rfl rfl rfl rfl ?_; refine zb ?_; refine AOps.eql rfl rfl rfl rfl rfl ?_; refine zd ?_; refine AW.condY rfl rfl (by with_reducible assumption) ?_; refine zo ?_; (with_reducible apply AW.regionQ); exact rfl; exact rfl; kernel_rfl; (with_reducible assumption); refine AOps.move_own rfl rfl rfl ?_; refine AOps.fieldAddrN 82 1 1 rfl rfl rfl rfl ?_; refine zb ?_; refine AOps.quoE rfl rfl rfl rfl rfl (by omega) ?_; refine AOps.index_own_mapI rfl rfl rfl rfl rfl rfl rfl (by omega) (by omega) ?_; (focus ((with_reducible apply AOps.load_o1_mapI); (iterate 4 exact rfl); exact (fun h_ => by cases h_); rotate_left; (first | omega | exact Nat.zero_lt_one | exact (by simp)))); refine AOps.fieldAddrN 82 1 1 rfl rfl rfl rfl ?_; refine zb ?_; refine AOps.remE rfl rfl rfl rfl rfl (by omega) ?_; refine AOps.eql rfl rfl rfl rfl rfl ?_; refine AOps.eqlB rfl rfl rfl rfl rfl rfl ?_; refine za ?_; refine zd ?_; refine zo ?_; (with_reducible apply AW.regionQ); exact rfl; exact rfl; kernel_rfl; (with_reducible assumption); refine AOps.move_own rfl rfl rfl ?_; refine AOps.fieldAddrN 82 2 2 rfl rfl rfl rfl ?_; refine zb ?_; refine AOps.quoE rfl rfl rfl rfl rfl (by omega) ?_; refine AOps.index_own_mapI rfl rfl rfl rfl rfl rfl rfl (by omega) (by omega) ?_; (focus ((with_reducible apply AOps.load_o1_mapI); (iterate 4 exact rfl); exact (fun h_ => by cases h_); rotate_left; (first | omega | exact Nat.zero_lt_one | exact (by simp)))); refine AOps.fieldAddrN 82 2 2 rfl rfl rfl rfl ?_; refine zb ?_; refine AOps.remE rfl rfl rfl rfl rfl (by omega) ?_; refine AOps.eql rfl rfl rfl rfl rfl ?_; refine AOps.eqlB rfl rfl rfl rfl rfl rfl ?_; refine za ?_; refine zd ?_; refine AW.region ?_; refine nz ?_; (iterate 2 refine zm ?_); refine AOps.guardTy rfl rfl rfl rfl rfl rfl (by with_reducible assumption) ?_; refine zm ?_; refine AOps.pickT_pv rfl rfl (by with_reducible assumption) rfl rfl rfl rfl ?_; refine za ?_; refine zd ?_; refine AW.region ?_; refine nz ?_; refine AOps.move_own rfl rfl rfl ?_; refine zm ?_; refine AOps.bs1 rfl rfl rfl rfl rfl rfl rfl rfl ?_; refine nz ?_; (with_reducible apply AOps.appendS); exact rfl; (first | exact .pv rfl | exact .own rfl | exact .nil rfl); (iterate 9 exact rfl); (first | omega | (simp only [List.length_map, List.length_append, List.length_cons, List.length_nil, List.length_drop, List.length_take, List.length_set, chunk_len]; omega)); refine nz ?_; refine AOps.assign_own rfl rfl rfl ?_; refine AOps.nil ?_; refine inBlockD_n ?_; refine thenD_n ?_; refine AW.region ?_; refine nz ?_; refine zm ?_; refine AOps.add rfl rfl rfl rfl rfl (by omega) ?_; refine za ?_; refine zd ?_)
        exact ⟨i + 1, by omega, by omega, weak rfl (by (refine ⟨.intE (by first | with_reducible rfl | (first | rfl | (rw [hdt, List.map_append]; rfl))), ?_⟩; refine ⟨.ownE (by first | with_reducible rfl | (first | rfl | (rw [hdt, List.map_append]; rfl))) rfl, ?_⟩; refine ⟨.boolE (by first | with_reducible rfl | (first | rfl | (rw [hdt, List.map_append]; rfl))), ?_⟩; refine ⟨.eq rfl rfl, ?_⟩; refine ⟨.pvE (by first | with_reducible rfl | (first | rfl | (rw [hdt, List.map_append]; rfl))), ?_⟩; refine ⟨.intE (by first | with_reducible rfl | (first | rfl | (rw [hdt, List.map_append]; rfl))), ?_⟩; exact trivial)) (by (refine ⟨.row rfl, ?_⟩; refine ⟨.box _ rfl ?_, ?_⟩; refine ⟨.pvE (by first | with_reducible rfl | (first | rfl | (rw [hdt, List.map_append]; rfl))), ?_⟩; (iterate 2 exact trivial))) rfl⟩
      · rw [decide_eq_false c1, Bool.false_and] at hdt
        have c1' := decide_eq_false c1
        (refine zo ?_; refine zq ?_; (iterate 2 refine zm ?_); refine AOps.quoE rfl rfl rfl rfl rfl (by omega) ?_; refine AOps.leq rfl rfl rfl rfl rfl ?_; refine zd ?_; refine AW.condY rfl rfl (by with_reducible assumption) ?_; refine AW.skip ?_; refine thenD_n ?_; refine zo ?_; refine AW.block ?_; refine zq ?_; refine nz ?_; refine AOps.fieldAddrN 31 0 0 rfl rfl rfl rfl ?_; refine zb ?_; refine zm ?_; (focus ((with_reducible apply AOps.index_map); (iterate 7 exact rfl); rotate_left; omega)); refine AOps.load_rn rfl rfl rfl rfl ?_; refine nz ?_; refine AOps.allocN' rfl rfl rfl rfl ?_; refine nz ?_; refine AOps.store_bn rfl rfl rfl rfl rfl rfl rfl rfl rfl (by with_reducible assumption) ?_; refine nz ?_; refine zd ?_; refine zq ?_; refine za ?_; refine zd ?_; refine zo ?_; refine zq ?_; refine nz ?_; refine AOps.fieldAddrN 82 0 0 rfl rfl rfl rfl ?_; refine zb ?_; refine AOps.eql rfl rfl rfl rfl rfl ?_; refine zd ?_; refine AW.condN rfl rfl (by with_reducible assumption) ?_; refine AW.skip ?_; refine thenD_n ?_; refine zo ?_; refine zq ?_; refine nz ?_; refine AOps.fieldAddrN 82 0 0 rfl rfl rfl rfl ?_; refine zb ?_; refine AOps.eql rfl rfl rfl rfl rfl ?_; refine zd ?_; refine AW.condY rfl rfl (by with_reducible assumption) ?_; refine zo ?_; (with_reducible apply AW.regionQ); exact rfl; exact rfl; kernel_rfl; (with_reducible assumption); refine AOps.move_own rfl rfl rfl ?_; refine AOps.fieldAddrN 82 1 1 rfl rfl rfl rfl ?_; refine zb ?_; refine AOps.quoE rfl rfl rfl rfl rfl (by omega) ?_; refine AOps.index_own_mapI rfl rfl rfl rfl rfl rfl rfl (by omega) (by omega) ?_; (focus ((with_reducible apply AOps.load_o1_mapI); (iterate 4 exact rfl); exact (fun h_ => by cases h_); rotate_left; (first | omega | exact Nat.zero_lt_one | exact (by simp)))); refine AOps.fieldAddrN 82 1 1 rfl rfl rfl rfl ?_; refine zb ?_; refine AOps.remE rfl rfl rfl rfl rfl (by omega) ?_; refine AOps.eql rfl rfl rfl rfl rfl ?_; refine AOps.eqlB rfl rfl rfl rfl rfl rfl ?_; refine za ?_; refine zd ?_; refine zo ?_; (with_reducible apply AW.regionQ); exact rfl; exact rfl; kernel_rfl; (with_reducible assumption); refine AOps.move_own rfl rfl rfl ?_; refine AOps.fieldAddrN 82 2 2 rfl rfl rfl rfl ?_; refine zb ?_; refine AOps.quoE rfl rfl rfl rfl rfl (by omega) ?_; refine AOps.index_own_mapI rfl rfl rfl rfl rfl rfl rfl (by omega) (by omega) ?_; (focus ((with_reducible apply AOps.load_o1_mapI); (iterate 4 exact rfl); exact (fun h_ => by cases h_); rotate_left; (first | omega | exact Nat.zero_lt_one | exact (by simp)))); refine AOps.fieldAddrN 82 2 2 rfl rfl rfl rfl ?_; refine zb ?_; refine AOps.remE rfl rfl rfl rfl rfl (by omega) ?_; refine AOps.eql rfl rfl rfl rfl rfl ?_; refine AOps.eqlB rfl rfl rfl rfl rfl rfl ?_; refine za ?_; refine zd ?_; refine AW.region ?_; refine nz ?_; (iterate 2 refine zm ?_); refine AOps.guardTn rfl rfl rfl rfl rfl rfl (by with_reducible assumption) ?_; refine AOps.pickF_pv rfl rfl (by with_reducible assumption) rfl rfl rfl rfl ?_; refine za ?_; refine zd ?_; refine AW.region ?_; refine nz ?_; refine AOps.move_own rfl rfl rfl ?_; refine zm ?_; refine AOps.bs1 rfl rfl rfl rfl rfl rfl rfl rfl ?_; refine nz ?_; (with_reducible apply AOps.appendS); exact rfl; (first | exact .pv rfl | exact .own rfl | exact .nil rfl); (iterate 9 exact rfl); (first | omega | (simp only [List.length_map, List.length_append, List.length_cons, List.length_nil, List.length_drop, List.length_take, List.length_set, chunk_len]; omega)); refine nz ?_; refine AOps.assign_own rfl rfl rfl ?_; refine AOps.nil ?_; refine inBlockD_n ?_; refine thenD_n ?_; refine AW.region ?_; refine nz ?_; refine zm ?_; refine AOps.add rfl rfl rfl rfl rfl (by omega) ?_; refine za ?_; refine zd ?_)
        exact ⟨i + 1, by omega, by omega, weak rfl (by (refine ⟨.intE (by first | with_reducible rfl | (first | rfl | (rw [hdt, List.map_append]; rfl))), ?_⟩; refine ⟨.ownE (by first | with_reducible rfl | (first | rfl | (rw [hdt, List.map_append]; rfl))) rfl, ?_⟩; refine ⟨.boolE (by first | with_reducible rfl | (first | rfl | (rw [hdt, List.map_append]; rfl))), ?_⟩; refine ⟨.eq rfl rfl, ?_⟩; refine ⟨.pvE (by first | with_reducible rfl | (first | rfl | (rw [hdt, List.map_append]; rfl))), ?_⟩; refine ⟨.intE (by first | with_reducible rfl | (first | rfl | (rw [hdt, List.map_append]; rfl))), ?_⟩; exact trivial)) (by (refine ⟨.row rfl, ?_⟩; refine ⟨.box _ rfl ?_, ?_⟩; refine ⟨.pvE (by first | with_reducible rfl | (first | rfl | (rw [hdt, List.map_append]; rfl))), ?_⟩; (iterate 2 exact trivial))) rfl⟩
  · have he : i = (r / 2).toNat + 1 := by omega
    have hi2 : ¬ (i : Int) ≤ r / 2 := by omega
    obtain ⟨d, hd⟩ : ∃ d, d = doneG gs vals i := ⟨_, rfl⟩
    obtain ⟨hd2, hev⟩ := evalG_done gs vals (r := r) (by omega) (d := d) (by rw [hd, he])
    rw [hev, ← hd]
    rw [← hd] at hdl
    clear hev hd
    (refine zo ?_; refine zq ?_; (iterate 2 refine zm ?_); refine AOps.quoE rfl rfl rfl rfl rfl (by omega) ?_; refine AOps.leq rfl rfl rfl rfl rfl ?_; refine zd ?_; refine AW.condN rfl rfl (by with_reducible assumption) ?_; refine AW.exit ?_; (iterate 2 refine thenD_exit ?_); refine inBlockD_exit ?_; refine thenD_n ?_; refine zq ?_; refine nz ?_; refine AOps.move_own rfl rfl rfl ?_; refine zm ?_; refine AOps.quoE rfl rfl rfl rfl rfl (by omega) ?_; refine AOps.index_own_mapI rfl rfl rfl rfl rfl rfl rfl (by omega) (by omega) ?_; (focus ((with_reducible apply AOps.load_o1_mapI); (iterate 4 exact rfl); exact (fun h_ => by cases h_); rotate_left; (first | omega | exact Nat.zero_lt_one | exact (by simp)))); refine zm ?_; refine AOps.remE rfl rfl rfl rfl rfl (by omega) ?_; refine AOps.eql rfl rfl rfl rfl rfl ?_; refine AOps.eqlB rfl rfl rfl rfl rfl rfl ?_; refine za ?_; refine zd ?_; refine AW.ret ?_)
    (apply ends_ret; (exact Res.one (.tmp rfl rfl)); (refine Le.litB ?_; (rfl)))
end Go.Ab
/- Chapter 24: Leader, walked. -/
namespace Go.Ab
open Go Go.Proofs
open Nat (reduceAdd reduceSub)
set_option maxRecDepth 20000
set_option maxHeartbeats 4000000
theorem ng_dropA {f g : Int → Bool} {o : List Int} {k : Nat} (h : k < o.length) : ngF f g (o.drop k) = if f o[k] = g o[k] then ngF f g (o.drop (k + 1)) else g o[k] := by
  rw [List.drop_eq_getElem_cons h]; rfl
/-- an assignment against its image, from the k-th variable on. -/
def leadK (vals : List Bool) (perm : List Int) (k : Nat) : Bool := ngF (inV vals) (inV (imgM vals perm)) ((ordM perm.length).drop k)
theorem leadK_zero (vals : List Bool) (perm : List Int) : leadK vals perm 0 = leadP vals perm := rfl
theorem leadK_end (vals : List Bool) (perm : List Int) : leadK vals perm perm.length = true := by
  unfold leadK
  rw [List.drop_eq_nil_of_le (by rw [ord_len]; omega)]; rfl
theorem leadK_step (vals : List Bool) {perm : List Int} {k : Nat} (hk : k < perm.length) (hi : k < (invM perm).length) : leadK vals perm k = if inV vals ((k : Int) + 1) = inV vals (invM perm)[k] then leadK vals perm (k + 1) else inV vals (invM perm)[k] := by
  have hl : k < (ordM perm.length).length := by rw [ord_len]; exact hk
  unfold leadK
  rw [ng_dropA hl, ord_at hl, img_at _ (by omega)]
  have e := inv_at (perm := perm) (w := (k : Int) + 1) (by omega) (by rw [inv_len]; omega)
  have e2 : (invM perm)[((k : Int) + 1 - 1).toNat]'(by rw [inv_len]; omega) = (invM perm)[k] := by
    congr 1
    omega
  rw [← e, e2]
attribute [local irreducible] AW AOps thenD inBlockD AR iterEnds roundEndsN inlEnds noGotoD EndsX invM leadK inV
theorem pValue_fn (vals : List Bool) (v : Int) (h1 : 1 ≤ v) (h2 : v ≤ 1000000) : Fn Try.prog 43 [litI v, .rptr [bools vals]] (litB (inV vals v)) := by
  by_cases h : v ≤ (vals.length : Int)
  · rw [inV_at h1 h]
    refine Fn.enter (n := 15) Try.func43 rfl rfl rfl rfl rfl (by decide) fun g hro_ hwt_ => ?_; (try refine nz ?_)
    (refine zq ?_; refine za ?_; refine zd ?_; refine zq ?_; refine nz ?_; refine zm ?_; refine zr ?_; refine zn ?_; refine AOps.leq rfl rfl rfl rfl rfl ?_; refine zm ?_; refine AOps.guardTy rfl rfl rfl rfl rfl rfl (by with_reducible assumption) ?_; refine zr ?_; refine AOps.guardTy rfl rfl rfl rfl rfl rfl (by with_reducible assumption) ?_; refine zm ?_; refine AOps.guardTy rfl rfl rfl rfl rfl rfl (by with_reducible assumption) ?_; refine AOps.sub rfl rfl rfl rfl rfl (by omega) ?_; refine AOps.guardTy rfl rfl rfl rfl rfl rfl (by with_reducible assumption) ?_; (focus ((with_reducible apply AOps.index_mapI); (iterate 7 exact rfl); omega; rotate_left; (first | omega | exact Nat.zero_lt_one | exact (by simp)))); refine AOps.guardTy rfl rfl rfl rfl rfl rfl (by with_reducible assumption) ?_; refine zr ?_; refine AOps.pickT_pv rfl rfl (by with_reducible assumption) rfl rfl rfl rfl ?_; refine za ?_; refine zd ?_; refine AW.ret ?_)
    (apply ends_ret; (exact Res.one (.tmp rfl rfl)); (refine Le.litB ?_; (rfl)))
  · rw [inV_out h1 h]
    refine Fn.enter (n := 15) Try.func43 rfl rfl rfl rfl rfl (by decide) fun g hro_ hwt_ => ?_; (try refine nz ?_)
    (refine zq ?_; refine za ?_; refine zd ?_; refine zq ?_; refine nz ?_; refine zm ?_; refine zr ?_; refine zn ?_; refine AOps.leq rfl rfl rfl rfl rfl ?_; refine zm ?_; (iterate 5 refine AOps.guardTn rfl rfl rfl rfl rfl rfl (by with_reducible assumption) ?_); refine AOps.pickF_pv rfl rfl (by with_reducible assumption) rfl rfl rfl rfl ?_; refine za ?_; refine zd ?_; refine AW.ret ?_)
    (apply ends_ret; (exact Res.one (.tmp rfl rfl)); (refine Le.litB ?_; (rfl)))
abbrev lO (vals : List Bool) : List (Nat × Option Ob) := [(0, some (.box [.pv (bools vals)])), (1, some (.box [.clo (.func 43) [] [.ptr 0 0]]))]
theorem pGreater_fn (vals : List Bool) (perm : List Int) (hp : PermOk perm) (hl : perm.length ≤ 100000) : FnX Try.prog 45 2 (lO vals) [.pv (ints perm), .ptr 1 0] (lO vals) (litB (!leadP vals perm)) := by
  have hiv := inverse_fn perm hp hl
  have hil := inv_len perm
  simp only [lO]
  rw [← leadK_zero]
  refine FnX.enter (n := 28) Try.func45 rfl rfl rfl rfl rfl (by decide) rfl rfl fun g hro_ hwt_ => ?_; (conv => rhs; simp only [Nf.en0, Nf.en1, Nf.pi0, Nf.pir, Nf.pib, Nf.pim, Nf.cn, Nf.nn, Nat.reduceAdd, Nat.zero_add])
  (refine zq ?_; refine za ?_; refine zd ?_; refine zo ?_; refine zq ?_; refine nz ?_; refine zm ?_; (with_reducible apply AOps.callp (hiv)); (repeat (first | exact .nil | (refine .cons rfl ?_ ?_; (first | exact .pv _ | exact .own _ _ _ _ rfl | exact .nil _ | exact .any _ | exact .rptr _ | (refine .aggL ?_; repeat (first | exact .nil | (refine .cons ?_ ?_; (first | exact .pv _ | exact .own _ _ _ _ rfl | exact .nil _)))))))); exact rfl; refine zn ?_; refine zm ?_; refine zd ?_; refine AW.block ?_)
  (refine nz ?_; apply AW.loopR [10, 9, 1, 1000] [0, 1] (fun k : Nat => ([(11, litI k)] : List (Nat × AV))) (fun k : Nat => ([] : List (Nat × Option Ob))) (fun k : Nat => k ≤ perm.length ∧ leadK vals perm 0 = leadK vals perm k) (fun k : Nat => perm.length - k) (0); (conv => lhs; simp only [Nf.lpR, Nf.all, Nat.reduceBEq, reduceAdd, reduceSub]); (all_goals skip))
  · exact ⟨Nat.zero_le _, rfl⟩
  · exact weak rfl (by (refine ⟨.eq rfl rfl, ?_⟩; (iterate 4 refine ⟨.eq rfl rfl, ?_⟩); exact trivial)) (by (refine ⟨.box _ rfl ?_, ?_⟩; refine ⟨.eq rfl rfl, ?_⟩; exact trivial; refine ⟨.box _ rfl ?_, ?_⟩; refine ⟨.eq rfl rfl, ?_⟩; (iterate 2 exact trivial))) rfl
  rintro k ⟨hk, he⟩
  by_cases hlt : k < perm.length
  · have hli : k < (invM perm).length := by omega
    have hs := leadK_step vals hlt hli
    have hr := hp.back (w := (k : Int) + 1) (by omega)
    have e := inv_at (perm := perm) (w := (k : Int) + 1) (by omega) (by omega)
    have e2 : (invM perm)[((k : Int) + 1 - 1).toNat]'(by omega) = (invM perm)[k] := by
      congr 1
      omega
    rw [← e, e2] at hr
    clear e e2
    have v1 := pValue_fn vals ((k : Int) + 1) (by omega) (by omega)
    have v2 := pValue_fn vals (invM perm)[k] (by omega) (by omega)
    generalize inV vals ((k : Int) + 1) = x at hs v1
    generalize inV vals (invM perm)[k] = y at hs v2
    by_cases hxy : x = y
    · rw [if_pos hxy] at hs
      (refine zq ?_; refine zs ?_; refine zd ?_; refine zo ?_; refine zc ?_; refine AW.skip ?_; refine thenD_n ?_; refine zo ?_; refine AW.block ?_; refine zq ?_; refine nz ?_; refine zm ?_; (focus ((with_reducible apply AOps.index_map); (iterate 7 exact rfl); rotate_left; omega)); refine zr ?_; (iterate 2 refine za ?_); refine zd ?_; refine zo ?_; refine AW.regionM [0, 1, 2, 4, 5] [] rfl (by assumption) (by kernel_rfl) (by kernel_rfl) rfl ?_; show AOps .held _ _ _ [_, _, _, _, _] _ _; refine zb ?_; refine zm ?_; refine AOps.add rfl rfl rfl rfl rfl (by omega) ?_; refine zb ?_; refine zm ?_; refine AOps.nil ?_; refine onlyN_n ?_; intro k_ hk_; refine nz ?_; refine AR.step1M (i := 3) rfl (by kernel_rfl) rfl ?_; intro g_ hgro_ hw_; (with_reducible apply AOps.callC0 (hf := v1)); (iterate 3 exact rfl); (repeat (first | exact .nil | (refine .cons ?_ ?_; (first | exact .le (.pv _) | exact .box rfl rfl | exact .le (.own _ _ _ _ rfl) | exact .le (.nil _) | exact .le (.any _) | exact .le (.rptr _) | (refine .le (.aggL ?_); repeat (first | exact .nil | (refine .cons ?_ ?_; (first | exact .pv _ | exact .own _ _ _ _ rfl | exact .nil _)))))))); exact rfl; exact rfl; exact (fun h_ => by cases h_); refine AOps.nil ?_; refine onlyN_n ?_; refine AR.step1M (i := 6) rfl (by kernel_rfl) rfl ?_; intro g_ hgro_ hw_; (with_reducible apply AOps.callC0 (hf := v2)); (iterate 3 exact rfl); (repeat (first | exact .nil | (refine .cons ?_ ?_; (first | exact .le (.pv _) | exact .box rfl rfl | exact .le (.own _ _ _ _ rfl) | exact .le (.nil _) | exact .le (.any _) | exact .le (.rptr _) | (refine .le (.aggL ?_); repeat (first | exact .nil | (refine .cons ?_ ?_; (first | exact .pv _ | exact .own _ _ _ _ rfl | exact .nil _)))))))); exact rfl; exact rfl; exact (fun h_ => by cases h_); refine AOps.nil ?_; refine onlyN_n ?_; refine AR.readsM [7, 8] (by kernel_rfl) (by kernel_rfl) (by kernel_rfl) (by kernel_rfl) ?_; intro g_ hgro_; show AOps .held _ _ _ [_, _] _ _; (iterate 2 refine za ?_); refine AOps.nil ?_; refine onlyN_n ?_; intro k_ hk_; refine nz ?_; refine AR.doneM (by assumption) (by kernel_rfl) ?_; refine thenD_n ?_; refine zq ?_; (iterate 2 refine zm ?_); refine AOps.neqB rfl rfl rfl rfl rfl rfl ?_; refine zd ?_; (focus ((with_reducible apply AW.condD); exact rfl; exact rfl; all_goals intro hc_)); refine zq ?_; refine nz ?_; refine zm ?_; refine za ?_; refine zd ?_; refine AW.ret ?_; refine inBlockD_ret ?_; (iterate 2 refine thenD_ret ?_); refine inBlockD_ret ?_; refine thenD_ret ?_; (all_goals skip); rotate_left; refine AW.skip ?_; refine inBlockD_n ?_; refine thenD_n ?_; refine AW.region ?_; refine nz ?_; refine AOps.add rfl rfl rfl rfl rfl (by omega) ?_; refine zm ?_; refine zd ?_; (all_goals skip); rotate_left)
      · exact absurd hxy hc_
      exact ⟨k + 1, ⟨by omega, he.trans hs⟩, by omega, weak rfl (by (refine ⟨.eq rfl rfl, ?_⟩; (iterate 4 refine ⟨.eq rfl rfl, ?_⟩); exact trivial)) (by (refine ⟨.box _ rfl ?_, ?_⟩; refine ⟨.eq rfl rfl, ?_⟩; exact trivial; refine ⟨.box _ rfl ?_, ?_⟩; refine ⟨.eq rfl rfl, ?_⟩; (iterate 2 exact trivial))) rfl⟩
    · rw [if_neg hxy] at hs
      rw [he, hs]
      have hy : (!y) = x := by cases x <;> cases y <;> simp_all
      rw [hy]
      (refine zq ?_; refine zs ?_; refine zd ?_; refine zo ?_; refine zc ?_; refine AW.skip ?_; refine thenD_n ?_; refine zo ?_; refine AW.block ?_; refine zq ?_; refine nz ?_; refine zm ?_; (focus ((with_reducible apply AOps.index_map); (iterate 7 exact rfl); rotate_left; omega)); refine zr ?_; (iterate 2 refine za ?_); refine zd ?_; refine zo ?_; refine AW.regionM [0, 1, 2, 4, 5] [] rfl (by assumption) (by kernel_rfl) (by kernel_rfl) rfl ?_; show AOps .held _ _ _ [_, _, _, _, _] _ _; refine zb ?_; refine zm ?_; refine AOps.add rfl rfl rfl rfl rfl (by omega) ?_; refine zb ?_; refine zm ?_; refine AOps.nil ?_; refine onlyN_n ?_; intro k_ hk_; refine nz ?_; refine AR.step1M (i := 3) rfl (by kernel_rfl) rfl ?_; intro g_ hgro_ hw_; (with_reducible apply AOps.callC0 (hf := v1)); (iterate 3 exact rfl); (repeat (first | exact .nil | (refine .cons ?_ ?_; (first | exact .le (.pv _) | exact .box rfl rfl | exact .le (.own _ _ _ _ rfl) | exact .le (.nil _) | exact .le (.any _) | exact .le (.rptr _) | (refine .le (.aggL ?_); repeat (first | exact .nil | (refine .cons ?_ ?_; (first | exact .pv _ | exact .own _ _ _ _ rfl | exact .nil _)))))))); exact rfl; exact rfl; exact (fun h_ => by cases h_); refine AOps.nil ?_; refine onlyN_n ?_; refine AR.step1M (i := 6) rfl (by kernel_rfl) rfl ?_; intro g_ hgro_ hw_; (with_reducible apply AOps.callC0 (hf := v2)); (iterate 3 exact rfl); (repeat (first | exact .nil | (refine .cons ?_ ?_; (first | exact .le (.pv _) | exact .box rfl rfl | exact .le (.own _ _ _ _ rfl) | exact .le (.nil _) | exact .le (.any _) | exact .le (.rptr _) | (refine .le (.aggL ?_); repeat (first | exact .nil | (refine .cons ?_ ?_; (first | exact .pv _ | exact .own _ _ _ _ rfl | exact .nil _)))))))); exact rfl; exact rfl; exact (fun h_ => by cases h_); refine AOps.nil ?_; refine onlyN_n ?_; refine AR.readsM [7, 8] (by kernel_rfl) (by kernel_rfl) (by kernel_rfl) (by kernel_rfl) ?_; intro g_ hgro_; show AOps .held _ _ _ [_, _] _ _; (iterate 2 refine za ?_); refine AOps.nil ?_; refine onlyN_n ?_; intro k_ hk_; refine nz ?_; refine AR.doneM (by assumption) (by kernel_rfl) ?_; refine thenD_n ?_; refine zq ?_; (iterate 2 refine zm ?_); refine AOps.neqB rfl rfl rfl rfl rfl rfl ?_; refine zd ?_; refine AW.condY rfl rfl (by with_reducible assumption) ?_; refine zq ?_; refine nz ?_; refine zm ?_; refine za ?_; refine zd ?_; refine AW.ret ?_; refine inBlockD_ret ?_; (iterate 2 refine thenD_ret ?_); refine inBlockD_ret ?_; refine thenD_ret ?_)
      (apply endsX_ret; ((exact Res.one (.tmp rfl rfl))); ((refine ⟨.boolE (by first | with_reducible rfl | (rfl)), ?_⟩; refine ⟨.eq rfl rfl, ?_⟩; exact trivial)); ((refine ⟨.box _ rfl ?_, ?_⟩; refine ⟨.pvE (by first | with_reducible rfl | (rfl)), ?_⟩; exact trivial; refine ⟨.box _ rfl ?_, ?_⟩; refine ⟨.eq rfl rfl, ?_⟩; (iterate 2 exact trivial))); exact rfl)
  · obtain rfl : k = perm.length := by omega
    rw [he, leadK_end]
    (refine zq ?_; refine zs ?_; refine zd ?_; refine zo ?_; refine zk ?_; refine AW.exit ?_; (iterate 2 refine thenD_exit ?_); refine inBlockD_exit ?_; refine thenD_n ?_; refine zq ?_; refine nz ?_; refine za ?_; refine zd ?_; refine AW.ret ?_)
    (apply endsX_ret; ((exact Res.one (.tmp rfl rfl))); ((refine ⟨.boolE (by first | with_reducible rfl | (rfl)), ?_⟩; refine ⟨.eq rfl rfl, ?_⟩; exact trivial)); ((refine ⟨.box _ rfl ?_, ?_⟩; refine ⟨.pvE (by first | with_reducible rfl | (rfl)), ?_⟩; exact trivial; refine ⟨.box _ rfl ?_, ?_⟩; refine ⟨.eq rfl rfl, ?_⟩; (iterate 2 exact trivial))); exact rfl)
end Go.Ab
/- slices' functions that take functions. -/
namespace Go.Ab
open Go Go.Proofs
open Nat (reduceAdd reduceSub)
set_option maxRecDepth 20000
set_option maxHeartbeats 4000000
attribute [local irreducible] AW AOps thenD inBlockD AR iterEnds roundEndsN inlEnds noGotoD
end Go.Ab
/- Chapter 24: Leader over several permutations, walked. -/
namespace Go.Ab
open Go Go.Proofs
open Nat (reduceAdd reduceSub)
set_option maxRecDepth 20000
set_option maxHeartbeats 4000000
attribute [local irreducible] AW AOps thenD inBlockD AR iterEnds roundEndsN inlEnds noGotoD EndsX invM leadP inV
theorem leader_fn (vals : List Bool) (perms : List (List Int)) (hp : ∀ p ∈ perms, PermOk p ∧ p.length ≤ 100000) (hl : perms.length ≤ 100000) : Fn Try.prog 21 [.pv (bools vals), .pv (intss perms)] (litB (leadM vals perms)) := by
  have hg := fun p h => pGreater_fn vals p (hp p h).1 (hp p h).2
  simp only [lO] at hg
  refine Fn.enter (n := 11) Try.func21 rfl rfl rfl rfl rfl (by decide) fun g hro_ hwt_ => ?_; (try refine nz ?_)
  (refine zq ?_; refine AOps.box rfl rfl rfl rfl ?_; refine nz ?_; refine za ?_; refine zd ?_; refine zq ?_; refine nz ?_; refine AOps.makeFunc_c rfl rfl rfl ?_; refine AOps.allocN' rfl rfl rfl rfl ?_; refine nz ?_; refine AOps.store_b1 rfl rfl rfl rfl rfl rfl rfl rfl rfl (by with_reducible assumption) ?_; refine nz ?_; refine zd ?_; refine zq ?_; refine zm ?_; refine AOps.makeFunc_c rfl rfl rfl ?_; (with_reducible apply AOps.inline (hf := Try.func44)); (with_reducible assumption); (iterate 10 exact rfl); intro g_ hro_ hwt_; refine nz ?_; refine zq ?_; refine za ?_; refine zd ?_; refine zq ?_; refine nz ?_; refine zm ?_; refine AOps.move_clo rfl rfl rfl ?_; (with_reducible apply AOps.inline (hf := Try.func71)); (with_reducible assumption); (iterate 10 exact rfl); intro g_ hro_ hwt_; refine nz ?_; refine zq ?_; refine za ?_; refine zd ?_; refine zo ?_; refine zq ?_; refine nz ?_; refine zm ?_; refine zn ?_; refine zm ?_; refine zd ?_; refine AW.block ?_)
  (refine nz ?_; apply AW.loopR [7, 0, 1, 1006, 1005, 1004, 1000, 1001, 2008, 2007, 2005, 2004, 2001] [1, 0] (fun k : Nat => ([(8, litI k)] : List (Nat × AV))) (fun k : Nat => ([] : List (Nat × Option Ob))) (fun k : Nat => k ≤ perms.length ∧ leadM vals perms = (perms.drop k).all (leadP vals)) (fun k : Nat => perms.length - k) (0); (conv => lhs; simp only [Nf.lpR, Nf.all, Nat.reduceBEq, reduceAdd, reduceSub]); (all_goals skip))
  · exact ⟨Nat.zero_le _, rfl⟩
  · exact weak rfl (by (refine ⟨.eq rfl rfl, ?_⟩; (iterate 13 refine ⟨.eq rfl rfl, ?_⟩); exact trivial)) (by (refine ⟨.box _ rfl ?_, ?_⟩; refine ⟨.eq rfl rfl, ?_⟩; exact trivial; refine ⟨.box _ rfl ?_, ?_⟩; refine ⟨.eq rfl rfl, ?_⟩; (iterate 2 exact trivial))) rfl
  rintro k ⟨hk, he⟩
  by_cases hlt : k < perms.length
  · have hx := hg perms[k] (List.getElem_mem hlt)
    rw [List.drop_eq_getElem_cons hlt, List.all_cons] at he
    cases hb : leadP vals perms[k] with
    | true =>
      rw [hb] at hx he
      rw [Bool.true_and] at he
      simp only [Bool.not_true] at hx
      (refine zq ?_; refine zs ?_; refine zd ?_; refine zo ?_; refine zc ?_; refine AW.skip ?_; refine thenD_n ?_; refine zo ?_; refine AW.block ?_; refine zq ?_; refine nz ?_; refine zm ?_; refine za ?_; refine zd ?_; refine zq ?_; refine nz ?_; refine AOps.move_clo rfl rfl rfl ?_; (iterate 2 refine zm ?_); (focus ((with_reducible apply AOps.index_map); (iterate 7 exact rfl); rotate_left; omega)); refine zr ?_; (with_reducible apply AOps.callX (hf := hx)); (with_reducible assumption); (iterate 3 exact rfl); (repeat (first | exact trivial | refine ⟨rfl, ?_⟩)); (repeat (first | exact .nil | (refine .cons ?_ ?_; (first | exact .eq rfl rfl | exact .nil _ | exact .any _)))); exact rfl; exact rfl; (repeat (first | exact trivial | refine ⟨rfl, ?_⟩ | refine ⟨obIds_set, ?_⟩)); (repeat (first | exact trivial | refine ⟨rfl, ?_⟩ | refine ⟨obIds_set, ?_⟩)); exact rfl; exact rfl; (conv => rhs; simp only [Nf.af, Nf.xe0, Nf.xe1, Nf.xo0, Nf.xon, Nf.xor, Nf.xob, Nf.xom, Nf.xoi, Nf.xol, Nf.xop, Nf.xl0, Nf.xl1, Nf.xk_any, Nf.xk_pv, Nf.xk_ptr, Nf.xk_rptr, Nf.xk_mapr, Nf.xk_yld, Nf.xk_own, Nf.xk_optr, Nf.xk_agg, Nf.xk_tup, Nf.xk_clo, Nf.rw0, Nf.rwr, Nf.rwb, Nf.rwm, Nf.cn, Nf.nn, memN0, memN1, Nat.reduceBEq, cond_true, cond_false]); refine nz ?_; refine zd ?_; refine AW.cond_lf rfl rfl ?_; refine AW.skip ?_; refine inBlockD_n ?_; refine thenD_n ?_; refine AW.region ?_; refine AOps.add rfl rfl rfl rfl rfl (by omega) ?_; refine zm ?_; refine zd ?_)
      exact ⟨k + 1, ⟨by omega, he⟩, by omega, weak rfl (by (refine ⟨.eq rfl rfl, ?_⟩; (iterate 13 refine ⟨.eq rfl rfl, ?_⟩); exact trivial)) (by (refine ⟨.box _ rfl ?_, ?_⟩; refine ⟨.eq rfl rfl, ?_⟩; exact trivial; refine ⟨.box _ rfl ?_, ?_⟩; refine ⟨.eq rfl rfl, ?_⟩; (iterate 2 exact trivial))) rfl⟩
    | false =>
      rw [hb] at hx he
      rw [Bool.false_and] at he
      rw [he]
      simp only [Bool.not_false] at hx
      (refine zq ?_; refine zs ?_; refine zd ?_; refine zo ?_; refine zc ?_; refine AW.skip ?_; refine thenD_n ?_; refine zo ?_; refine AW.block ?_; refine zq ?_; refine nz ?_; refine zm ?_; refine za ?_; refine zd ?_; refine zq ?_; refine nz ?_; refine AOps.move_clo rfl rfl rfl ?_; (iterate 2 refine zm ?_); (focus ((with_reducible apply AOps.index_map); (iterate 7 exact rfl); rotate_left; omega)); refine zr ?_; (with_reducible apply AOps.callX (hf := hx)); (with_reducible assumption); (iterate 3 exact rfl); (repeat (first | exact trivial | refine ⟨rfl, ?_⟩)); (repeat (first | exact .nil | (refine .cons ?_ ?_; (first | exact .eq rfl rfl | exact .nil _ | exact .any _)))); exact rfl; exact rfl; (repeat (first | exact trivial | refine ⟨rfl, ?_⟩ | refine ⟨obIds_set, ?_⟩)); (repeat (first | exact trivial | refine ⟨rfl, ?_⟩ | refine ⟨obIds_set, ?_⟩)); exact rfl; exact rfl; (conv => rhs; simp only [Nf.af, Nf.xe0, Nf.xe1, Nf.xo0, Nf.xon, Nf.xor, Nf.xob, Nf.xom, Nf.xoi, Nf.xol, Nf.xop, Nf.xl0, Nf.xl1, Nf.xk_any, Nf.xk_pv, Nf.xk_ptr, Nf.xk_rptr, Nf.xk_mapr, Nf.xk_yld, Nf.xk_own, Nf.xk_optr, Nf.xk_agg, Nf.xk_tup, Nf.xk_clo, Nf.rw0, Nf.rwr, Nf.rwb, Nf.rwm, Nf.cn, Nf.nn, memN0, memN1, Nat.reduceBEq, cond_true, cond_false]); refine nz ?_; refine zd ?_; refine AW.cond_lt rfl rfl ?_; refine zq ?_; refine zm ?_; refine za ?_; refine zd ?_; refine AW.ret ?_; refine inBlockD_ret ?_; (iterate 2 refine thenD_ret ?_); refine inBlockD_ret ?_; refine thenD_ret ?_; refine inlEnds_rpv rfl rfl ?_; refine nz ?_; refine AOps.geq rfl rfl rfl rfl rfl ?_; refine za ?_; refine zd ?_; refine AW.ret ?_; refine inlEnds_rpv rfl rfl ?_; refine nz ?_; refine AOps.notD rfl rfl rfl ?_; refine za ?_; refine zd ?_; refine AW.ret ?_)
      (apply ends_ret; (exact Res.one (.tmp rfl rfl)); (refine Le.litB ?_; (rfl)))
  · rw [List.drop_eq_nil_of_le (by omega)] at he
    rw [he]
    (refine zq ?_; refine zs ?_; refine zd ?_; refine zo ?_; refine zk ?_; refine AW.exit ?_; (iterate 2 refine thenD_exit ?_); refine inBlockD_exit ?_; refine thenD_n ?_; refine zq ?_; refine nz ?_; refine za ?_; refine zd ?_; refine AW.ret ?_; refine inlEnds_rpv rfl rfl ?_; refine nz ?_; refine AOps.geq rfl rfl rfl rfl rfl ?_; refine za ?_; refine zd ?_; refine AW.ret ?_; refine inlEnds_rpv rfl rfl ?_; refine nz ?_; refine AOps.notD rfl rfl rfl ?_; refine za ?_; refine zd ?_; refine AW.ret ?_)
    (apply ends_ret; (exact Res.one (.tmp rfl rfl)); (refine Le.litB ?_; (rfl)))
end Go.Ab
/- Chapter 24: the predicates of several permutations, in plain terms. -/
namespace Go.Ab
open Go Go.Proofs
set_option maxRecDepth 20000
set_option maxHeartbeats 4000000
def brkS (p : List GateM × Int) (l : List Int) : List GateM × Int := andG (predM p.1 l (ordM l.length)).1 p.2 (predM p.1 l (ordM l.length)).2
def brkM (gs : List GateM) (ls : List (List Int)) : List GateM × Int := ls.foldl brkS (gs, 0)
theorem brk_snoc (gs : List GateM) {ls : List (List Int)} {k : Nat} (h : k < ls.length) : brkM gs (ls.take (k + 1)) = brkS (brkM gs (ls.take k)) ls[k] := by
  unfold brkM
  rw [List.take_succ_eq_append_getElem h, List.foldl_append]; rfl
theorem ord_inc (n : Nat) : Inc (ordM n) := by
  unfold ordM Inc
  exact List.Pairwise.map _ (fun a b h => by omega) List.pairwise_lt_range
theorem sort_ord {n : Nat} {l : List Int} (h : PermN n l) : sortL l = ordM n := by
  have hp : (sortL l).Perm l := List.mergeSort_perm l _
  have hnd : (sortL l).Nodup := hp.nodup_iff.2 h.nodup
  have hle := sort_le l
  refine inc_ext (List.Pairwise.imp₂ (fun a b h1 h2 => ?_) hle hnd) (ord_inc n) fun x => ?_
  · exact Int.lt_iff_le_and_ne.2 ⟨h1, h2⟩
  · rw [sort_mem, ord_mem]
    exact ⟨fun hx => h.rng x hx, fun hx => h.ok.all (by rw [h.len]; exact hx)⟩
theorem pred_lead {gs : List GateM} {l : List Int} {n : Nat} (hc : CirOk gs) (hl : PermN n l) (hn : n ≤ 1000) (hg : gs.length + 6 * n < 18000) : Pred gs (6 * n) (predM gs l (ordM l.length)) (fun v => leadP v l) := by
  have h := pred_ok hc hl.ok (by rw [hl.len]; exact hn) (ordM l.length) (fun w hw => ord_mem.1 hw) (by rw [ord_len, hl.len]; exact hg)
  have e : 6 * (ordM l.length).length = 6 * n := by rw [ord_len, hl.len]
  rw [e] at h
  refine ⟨h.cir, h.ref, h.le, h.len, h.keep, fun v => ?_, h.nodup⟩
  rw [h.val v]
  unfold leadP
  exact ng_congr _ (fun w _ => rfl) fun w hw => (img_at v (ord_mem.1 hw)).symm
theorem brk_ok {gs : List GateM} (hc : CirOk gs) {ls : List (List Int)} {n : Nat} (hls : ∀ l ∈ ls, PermN n l) (hn : n ≤ 1000) (hg : gs.length + ls.length * (6 * n + 1) < 18000) : ∀ k, k ≤ ls.length → Pred gs (k * (6 * n + 1)) (brkM gs (ls.take k)) (fun v => leadM v (ls.take k))
  | 0, _ => ⟨hc, ⟨Int.le_refl _, by have := hc.pos; show (0 : Int) < 2 * (gs.length : Int); omega⟩, Nat.le_refl _, Nat.le_add_right _ _, fun v r _ => rfl, fun v => evalG_0 hc v, fun h => h⟩
  | k + 1, hk => by
    have ih := brk_ok hc hls hn hg k (by omega)
    have hlt : k < ls.length := by omega
    rw [brk_snoc gs hlt]
    have hle : (k + 1) * (6 * n + 1) ≤ ls.length * (6 * n + 1) := Nat.mul_le_mul_right _ hk
    rw [Nat.succ_mul] at hle
    obtain ⟨c0, r0, l0, m0, k0, v0, n0⟩ := ih
    have hp := pred_lead c0 (hls _ (List.getElem_mem hlt)) hn (by omega)
    unfold brkS
    generalize brkM gs (ls.take k) = p at c0 r0 l0 m0 k0 v0 n0 hp ⊢
    generalize predM p.1 ls[k] (ordM ls[k].length) = q at hp ⊢
    obtain ⟨c1, r1, l1, m1, k1, v1, n1⟩ := hp
    have ga := and_ok c1 (r0.mono l1) r1 (by omega)
    have va := and_ev c1 (r0.mono l1) r1 (by omega)
    have la := ga.le
    have ma := ga.len
    refine ⟨ga.cir, ga.ref, by omega, by rw [Nat.succ_mul]; omega, fun v r hr => ?_, fun v => ?_, fun h => and_nodup (n1 (n0 h))⟩
    · rw [va.keep v r ((hr.mono l0).mono l1), k1 v r (hr.mono l0), k0 v r hr]
    · rw [va.val v, k1 v _ r0, v0 v, v1 v]
      unfold leadM
      rw [List.take_succ_eq_append_getElem hlt, List.all_append]
      simp
end Go.Ab
/- Chapter 24: permutations of atoms, images of ranks, the group of symmetries, in plain terms. -/
namespace Go.Ab
open Go Go.Proofs
set_option maxRecDepth 20000
set_option maxHeartbeats 4000000
/-- the image of a rank. -/
def imgR (n : Nat) (p : List Int) : Nat → Int → Int
  | 0, _ => 0
  | a + 1, t => p.getD (t % (n : Int)).toNat 0 + (n : Int) * imgR n p a (t / (n : Int))
/-- a permutation of atoms that keeps a number (its sort). -/
structure PermA (n : Nat) (srt : Int → Int) (p : List Int) : Prop where
  len : p.length = n
  nodup : p.Nodup
  rng : ∀ x ∈ p, 0 ≤ x ∧ x < (n : Int)
  srt : ∀ (i : Nat) (h : i < p.length), srt p[i] = srt (i : Int)
theorem PermA.at {n : Nat} {srt : Int → Int} {p : List Int} (h : PermA n srt p) {i : Nat} (hi : i < n) : p.getD i 0 = p[i]'(by rw [h.len]; exact hi) := by
  rw [List.getD_eq_getElem?_getD, List.getElem?_eq_getElem (by rw [h.len]; exact hi)]; rfl
theorem PermA.lt {n : Nat} {srt : Int → Int} {p : List Int} (h : PermA n srt p) {i : Nat} (hi : i < n) : 0 ≤ p.getD i 0 ∧ p.getD i 0 < (n : Int) := by
  rw [h.at hi]; exact h.rng _ (List.getElem_mem _)
theorem PermA.inj {n : Nat} {srt : Int → Int} {p : List Int} (h : PermA n srt p) {i j : Nat} (hi : i < n) (hj : j < n) (e : p.getD i 0 = p.getD j 0) : i = j := by
  rw [h.at hi, h.at hj] at e
  exact (List.getElem_inj h.nodup).1 e
theorem mod_lt {n : Nat} (hn : 0 < n) (t : Int) : (t % (n : Int)).toNat < n := by
  have h1 := Int.emod_nonneg t (show (n : Int) ≠ 0 by omega)
  have h2 := Int.emod_lt_of_pos t (show 0 < (n : Int) by omega)
  omega
theorem pow_succ_cast (n a : Nat) : ((n ^ (a + 1) : Nat) : Int) = (n : Int) * ((n ^ a : Nat) : Int) := by
  rw [Nat.pow_succ, Nat.mul_comm]; exact Int.natCast_mul _ _
theorem div_rng {n a : Nat} (hn : 0 < n) {t : Int} (h : 0 ≤ t ∧ t < ((n ^ (a + 1) : Nat) : Int)) : 0 ≤ t / (n : Int) ∧ t / (n : Int) < ((n ^ a : Nat) : Int) := by
  rw [pow_succ_cast] at h
  exact ⟨Int.ediv_nonneg h.1 (by omega), Int.ediv_lt_of_lt_mul (by omega) (by rw [Int.mul_comm]; exact h.2)⟩
theorem add_mul_rng {n a : Nat} {d s : Int} (hd : 0 ≤ d ∧ d < (n : Int)) (hs : 0 ≤ s ∧ s < ((n ^ a : Nat) : Int)) : 0 ≤ d + (n : Int) * s ∧ d + (n : Int) * s < ((n ^ (a + 1) : Nat) : Int) := by
  rw [pow_succ_cast]
  have h1 : 0 ≤ (n : Int) * s := Int.mul_nonneg (by omega) hs.1
  have h2 : (n : Int) * (s + 1) ≤ (n : Int) * ((n ^ a : Nat) : Int) := Int.mul_le_mul_of_nonneg_left (by omega) (by omega)
  rw [Int.mul_add, Int.mul_one] at h2
  omega
theorem digit_mod {n : Nat} {d s : Int} (hd : 0 ≤ d ∧ d < (n : Int)) : (d + (n : Int) * s) % (n : Int) = d := by
  rw [Int.add_mul_emod_self_left, Int.emod_eq_of_lt hd.1 hd.2]
theorem digit_div {n : Nat} (hn : 0 < n) {d s : Int} (hd : 0 ≤ d ∧ d < (n : Int)) : (d + (n : Int) * s) / (n : Int) = s := by
  rw [Int.add_mul_ediv_left _ _ (by omega), Int.ediv_eq_zero_of_lt hd.1 hd.2, Int.zero_add]
theorem img_rng {n : Nat} {srt : Int → Int} {p : List Int} (h : PermA n srt p) (hn : 0 < n) : ∀ (a : Nat) (t : Int), 0 ≤ imgR n p a t ∧ imgR n p a t < ((n ^ a : Nat) : Int)
  | 0, _ => by simp [imgR]
  | a + 1, t => add_mul_rng (h.lt (mod_lt hn t)) (img_rng h hn a _)
/-- composition. -/
def compA (p q : List Int) : List Int := q.map fun x => p.getD x.toNat 0
theorem comp_len (p q : List Int) : (compA p q).length = q.length := by simp [compA]
theorem comp_get {p q : List Int} {i : Nat} (h : i < (compA p q).length) : (compA p q)[i] = p.getD (q[i]'(by rwa [comp_len] at h)).toNat 0 := by simp [compA]
theorem comp_at {p q : List Int} {i : Nat} (h : i < q.length) : (compA p q).getD i 0 = p.getD (q.getD i 0).toNat 0 := by
  rw [List.getD_eq_getElem?_getD, List.getElem?_eq_getElem (by rw [comp_len]; exact h), List.getD_eq_getElem?_getD (l := q), List.getElem?_eq_getElem h]
  simp [compA]
theorem img_compA {n : Nat} {srt : Int → Int} {p q : List Int} (hq : PermA n srt q) (hn : 0 < n) : ∀ (a : Nat) (t : Int), imgR n (compA p q) a t = imgR n p a (imgR n q a t)
  | 0, _ => rfl
  | a + 1, t => by
    have d1 := hq.lt (mod_lt hn t)
    have e : imgR n (compA p q) (a + 1) t = (compA p q).getD (t % (n : Int)).toNat 0 + (n : Int) * imgR n (compA p q) a (t / (n : Int)) := rfl
    have e2 : imgR n p (a + 1) (imgR n q (a + 1) t) = p.getD (imgR n q (a + 1) t % (n : Int)).toNat 0 + (n : Int) * imgR n p a (imgR n q (a + 1) t / (n : Int)) := rfl
    have e3 : imgR n q (a + 1) t = q.getD (t % (n : Int)).toNat 0 + (n : Int) * imgR n q a (t / (n : Int)) := rfl
    rw [e, e2, e3, digit_mod d1, digit_div hn d1, comp_at (by rw [hq.len]; exact mod_lt hn t), img_compA hq hn a]
theorem PermA.comp {n : Nat} {srt : Int → Int} {p q : List Int} (hp : PermA n srt p) (hq : PermA n srt q) : PermA n srt (compA p q) := by
  refine ⟨by rw [comp_len, hq.len], ?_, fun x hx => ?_, fun i h => ?_⟩
  · unfold compA
    refine List.Pairwise.map _ (fun a b hab => ?_) (List.Pairwise.and_mem.1 hq.nodup)
    obtain ⟨ha, hb, hab⟩ := hab
    intro e
    have h1 := hq.rng _ ha
    have h2 := hq.rng _ hb
    have := hp.inj (by omega) (by omega) e
    omega
  · obtain ⟨y, hy, rfl⟩ := List.mem_map.1 hx
    have := hq.rng _ hy
    exact hp.lt (by omega)
  · have hi : i < q.length := by rwa [comp_len] at h
    have h1 := hq.rng _ (List.getElem_mem hi)
    have e : (compA p q)[i] = p[(q[i]).toNat]'(by rw [hp.len]; omega) := by
      rw [comp_get, hp.at (by omega)]
    rw [e, hp.srt _ (by rw [hp.len]; omega), show (((q[i]).toNat : Nat) : Int) = q[i] by omega, hq.srt i hi]
/-- the inverse. -/
def invA (p : List Int) : List Int := (List.range p.length).map fun j : Nat => ((p.findIdx fun x => decide (x = (j : Int)) : Nat) : Int)
theorem invA_len (p : List Int) : (invA p).length = p.length := by simp [invA]
theorem invA_at {p : List Int} {j : Nat} (h : j < (invA p).length) : (invA p)[j] = ((p.findIdx fun x => decide (x = (j : Int)) : Nat) : Int) := by simp [invA]
theorem mem_of_nodup (n : Nat) {p : List Int} (hnd : p.Nodup) (hr : ∀ x ∈ p, 0 ≤ x ∧ x < (n : Int)) (hl : p.length = n) {j : Int} (hj : 0 ≤ j ∧ j < (n : Int)) : j ∈ p := by
  apply Classical.byContradiction
  intro hn
  have := nodup_len n (l := (j :: p).map (· + 1)) (by
    refine List.Pairwise.map _ (fun a b hab e => hab (by omega)) (List.nodup_cons.2 ⟨hn, hnd⟩)) (fun x hx => by
    obtain ⟨y, hy, rfl⟩ := List.mem_map.1 hx
    rcases List.mem_cons.1 hy with rfl | hy
    · omega
    · have := hr y hy; omega)
  simp only [List.length_map, List.length_cons] at this
  omega
theorem PermA.find {n : Nat} {srt : Int → Int} {p : List Int} (h : PermA n srt p) {j : Nat} (hj : j < n) : ∃ i : Nat, ∃ hi : i < p.length, (p.findIdx fun x => decide (x = (j : Int))) = i ∧ p[i] = (j : Int) :=
  find_at (mem_of_nodup n h.nodup h.rng h.len (by omega))
theorem PermA.inv_at {n : Nat} {srt : Int → Int} {p : List Int} (h : PermA n srt p) {i : Nat} (hi : i < n) : (invA p).getD (p.getD i 0).toNat 0 = (i : Int) := by
  have hl := h.lt hi
  have hln := h.len
  have hlt : (p.getD i 0).toNat < (invA p).length := by rw [invA_len]; omega
  obtain ⟨k, hk, k1, k2⟩ := h.find (j := (p.getD i 0).toNat) (by omega)
  rw [List.getD_eq_getElem?_getD, List.getElem?_eq_getElem hlt]
  show (invA p)[_] = _
  rw [invA_at, k1]
  have : k = i := h.inj (by omega) hi (by rw [h.at (by omega), k2]; omega)
  omega
theorem PermA.inv {n : Nat} {srt : Int → Int} {p : List Int} (h : PermA n srt p) : PermA n srt (invA p) := by
  have hln := h.len
  refine ⟨by rw [invA_len, h.len], ?_, fun x hx => ?_, fun j hj => ?_⟩
  · unfold List.Nodup
    rw [List.pairwise_iff_getElem]
    intro a b ha hb hab e
    rw [invA_at, invA_at] at e
    rw [invA_len] at ha hb
    obtain ⟨i, i0, i1, i2⟩ := h.find (j := a) (by omega)
    obtain ⟨j, j0, j1, j2⟩ := h.find (j := b) (by omega)
    rw [i1, j1] at e
    have : i = j := by omega
    subst this
    omega
  · obtain ⟨j, hj, rfl⟩ := List.getElem_of_mem hx
    rw [invA_at]
    rw [invA_len] at hj
    obtain ⟨i, i0, i1, i2⟩ := h.find (j := j) (by omega)
    rw [i1]
    omega
  · rw [invA_at]
    rw [invA_len] at hj
    obtain ⟨i, i0, i1, i2⟩ := h.find (j := j) (by omega)
    rw [i1, ← h.srt i i0, i2]
/-- the identity. -/
def idA (n : Nat) : List Int := (List.range n).map fun i : Nat => (i : Int)
theorem idA_at {n i : Nat} (h : i < n) : (idA n).getD i 0 = (i : Int) := by
  rw [List.getD_eq_getElem?_getD, List.getElem?_eq_getElem (by simp [idA]; exact h)]
  simp [idA]
theorem idA_len (n : Nat) : (idA n).length = n := by simp [idA]
theorem PermA.id (n : Nat) (srt : Int → Int) : PermA n srt (idA n) := by
  refine ⟨idA_len n, ?_, fun x hx => ?_, fun i h => by simp [idA]⟩
  · unfold idA
    refine List.Pairwise.map _ (fun a b hab e => hab (by omega)) List.nodup_range
  · obtain ⟨y, hy, rfl⟩ := List.mem_map.1 hx
    have := List.mem_range.1 hy
    omega
theorem inv_comp {n : Nat} {srt : Int → Int} {p : List Int} (h : PermA n srt p) : compA (invA p) p = idA n := by
  have hln := h.len
  refine List.ext_getElem (by rw [comp_len, h.len, idA_len]) fun i h1 h2 => ?_
  rw [idA_len] at h2
  rw [comp_get]
  have := h.inv_at h2
  rw [h.at h2] at this
  rw [this]
  simp [idA]
theorem img_id {n : Nat} (hn : 0 < n) : ∀ (a : Nat) {t : Int}, (0 ≤ t ∧ t < ((n ^ a : Nat) : Int)) → imgR n (idA n) a t = t
  | 0, t, h => by rw [Nat.pow_zero] at h; show (0 : Int) = t; omega
  | a + 1, t, h => by
    show (idA n).getD (t % (n : Int)).toNat 0 + (n : Int) * imgR n (idA n) a (t / (n : Int)) = t
    rw [idA_at (mod_lt hn t), img_id hn a (div_rng hn h)]
    have m1 := Int.emod_nonneg t (show (n : Int) ≠ 0 by omega)
    have q1 := Int.emod_add_mul_ediv t n
    omega
/-- a list of ranks that a permutation keeps. -/
def keepL (n : Nat) (p : List Int) (a : Nat) (ts : List Int) : Bool := decide (canon (ts.map (imgR n p a)) = ts)
structure RanksOk (n a : Nat) (ts : List Int) : Prop where
  inc : Inc ts
  rng : ∀ t ∈ ts, 0 ≤ t ∧ t < ((n ^ a : Nat) : Int)
theorem keep_iff {n a : Nat} {p ts : List Int} (h : Inc ts) : keepL n p a ts = true ↔ ∀ x, x ∈ ts.map (imgR n p a) ↔ x ∈ ts := by
  unfold keepL
  rw [decide_eq_true_iff]
  constructor
  · intro e x
    rw [← canon_mem (zs := ts.map (imgR n p a)), e]
  · intro e
    exact inc_ext (canon_inc _) h fun x => by rw [canon_mem]; exact e x
theorem keep_comp {n a : Nat} {srt : Int → Int} {p q ts : List Int} (hq : PermA n srt q) (hn : 0 < n) (h : Inc ts) (h1 : keepL n p a ts = true) (h2 : keepL n q a ts = true) : keepL n (compA p q) a ts = true := by
  rw [keep_iff h] at h1 h2 ⊢
  intro x
  constructor
  · intro hx
    obtain ⟨t, ht, rfl⟩ := List.mem_map.1 hx
    rw [img_compA hq hn]
    exact (h1 _).1 (List.mem_map.2 ⟨_, (h2 _).1 (List.mem_map.2 ⟨t, ht, rfl⟩), rfl⟩)
  · intro hx
    obtain ⟨u, hu, rfl⟩ := List.mem_map.1 ((h1 x).2 hx)
    obtain ⟨t, ht, rfl⟩ := List.mem_map.1 ((h2 u).2 hu)
    exact List.mem_map.2 ⟨t, ht, img_compA hq hn a t⟩
theorem keep_inv {n a : Nat} {srt : Int → Int} {p ts : List Int} (hp : PermA n srt p) (hn : 0 < n) (h : RanksOk n a ts) (h1 : keepL n p a ts = true) : keepL n (invA p) a ts = true := by
  have key : ∀ t ∈ ts, imgR n (invA p) a (imgR n p a t) = t := fun t ht => by
    rw [← img_compA hp hn, inv_comp hp, img_id hn a (h.rng t ht)]
  rw [keep_iff h.inc] at h1 ⊢
  intro x
  constructor
  · intro hx
    obtain ⟨t, ht, rfl⟩ := List.mem_map.1 hx
    obtain ⟨u, hu, rfl⟩ := List.mem_map.1 ((h1 t).2 ht)
    rw [key u hu]
    exact hu
  · intro hx
    exact List.mem_map.2 ⟨imgR n p a x, (h1 _).1 (List.mem_map.2 ⟨x, hx, rfl⟩), key x hx⟩
theorem keep_id {n a : Nat} (hn : 0 < n) {ts : List Int} (h : RanksOk n a ts) : keepL n (idA n) a ts = true := by
  rw [keep_iff h.inc]
  intro x
  constructor
  · intro hx
    obtain ⟨t, ht, rfl⟩ := List.mem_map.1 hx
    rw [img_id hn a (h.rng t ht)]; exact ht
  · intro hx
    exact List.mem_map.2 ⟨x, hx, img_id hn a (h.rng x hx)⟩
end Go.Ab
/- Chapter 05's small functions, and their like in chapter 07's reference: sums, sorts, scopes. -/
namespace Go.Ab
open Go Go.Proofs
set_option maxRecDepth 20000
set_option maxHeartbeats 4000000
abbrev SortM := ByteArray × Bool
structure FieldM where
  name : ByteArray
  sorts : List Int
  var : Bool
structure SlV where
  a : Option Addr
  l : Nat
  c : Nat
def encSo (s : SortM) : List PV := [.lit (.string s.1), .lit (.bool s.2)]
def encF (f : FieldM) : List PV := [.lit (.string f.name), ints f.sorts, .lit (.bool f.var)]
structure SpecM where
  sorts : List SortM
  fields : List FieldM
  preds : SlV
  facts : SlV
abbrev slv (s : SlV) : AV := .pv (.lit (.slice s.a s.l s.c))
abbrev spc (s : SpecM) : AV := .agg [.pv (.slice 2 (s.sorts.map encSo)), .pv (.slice 3 (s.fields.map encF)), slv s.preds, slv s.facts]
abbrev scp (at' : List Int) (st : Int) : AV := .agg [.pv (ints at'), litI st]
/-- a scope's sizes: few and small. -/
def SmA (at' : List Int) : Prop := at'.length ≤ 1000 ∧ ∀ x ∈ at', 0 ≤ x ∧ x ≤ 1000
theorem sum_snoc (l : List Int) {k : Nat} (hk : k < l.length) : (l.take (k + 1)).sum = (l.take k).sum + l[k] := by
  rw [take_succ_get hk, List.sum_append]; simp
theorem sum_bound : ∀ (l : List Int), (∀ x ∈ l, 0 ≤ x ∧ x ≤ 1000) → 0 ≤ l.sum ∧ l.sum ≤ 1000 * l.length := by
  intro l
  induction l with
  | nil => intro _; simp
  | cons x l ih =>
    intro h
    have h1 := h x (by simp)
    have h2 := ih fun y hy => h y (by simp [hy])
    simp only [List.sum_cons, List.length_cons]
    omega
theorem SmA.take {at' : List Int} (h : SmA at') (k : Nat) : 0 ≤ (at'.take k).sum ∧ (at'.take k).sum ≤ 1000000 := by
  have h1 := sum_bound (at'.take k) fun x hx => h.2 x (List.mem_of_mem_take hx)
  have h2 := List.length_take_le k at'
  have h3 : (at'.take k).length ≤ 1000 := by have := h.1; simp; omega
  omega
attribute [local irreducible] AW AOps thenD inBlockD AR iterEnds roundEndsN inlEnds noGotoD
end Go.Ab
/- Chapter 06's tests for well-formed relations, the program's and the reference's. -/
namespace Go.Ab
open Go Go.Proofs
set_option maxRecDepth 20000
set_option maxHeartbeats 4000000
theorem pow_bound {n : Int} (h : 0 ≤ n ∧ n ≤ 1000) : ∀ k : Nat, k ≤ 3 → 0 ≤ n ^ k ∧ n ^ k ≤ 1000000000 := by
  intro k hk
  have h0 : n ^ 0 = 1 := Int.pow_zero n
  have h1 : n ^ 1 = n := by rw [Int.pow_succ, Int.pow_zero, Int.one_mul]
  have m2 : 0 ≤ n * n ∧ n * n ≤ 1000000 := ⟨Int.mul_nonneg h.1 h.1, by
    have := Int.mul_le_mul_of_nonneg_right h.2 h.1; omega⟩
  have h2 : n ^ 2 = n * n := by rw [Int.pow_succ, h1]
  have h3 : n ^ 3 = n * n * n := by rw [Int.pow_succ, h2]
  have m3 : 0 ≤ n * n * n ∧ n * n * n ≤ 1000000000 := ⟨Int.mul_nonneg m2.1 h.1, by
    have := Int.mul_le_mul_of_nonneg_right m2.2 h.1; omega⟩
  match k, hk with
  | 0, _ => rw [h0]; omega
  | 1, _ => rw [h1]; omega
  | 2, _ => rw [h2]; omega
  | 3, _ => rw [h3]; exact m3
attribute [local irreducible] AW AOps thenD inBlockD AR iterEnds roundEndsN inlEnds noGotoD
/-- strictly increasing behind last, below top. -/
def incrB (top : Int) : Int → List Int → Bool
  | _, [] => true
  | last, t :: l => decide (last < t ∧ t < top) && incrB top t l
def relOk (n : Int) (r : RelM) : Bool := decide (0 ≤ n ∧ n ≤ 12 ∧ 1 ≤ r.1 ∧ r.1 ≤ 3) && incrB (n ^ r.1.toNat) (-1) r.2
end Go.Ab
/- Chapter 06: difference and inclusion of relations. -/
namespace Go.Ab
open Go Go.Proofs
set_option maxRecDepth 20000
set_option maxHeartbeats 4000000
/-- how often each number has come. -/
def cntL (ts : List Int) : List (Int × Int) := ts.foldl (fun l t => setL' l t (getL l t + 1)) []
def diffL (a b : List Int) : List Int := a.filter fun t => decide (t ∉ b)
theorem diffL_snoc {a b : List Int} {k : Nat} (hk : k < a.length) : diffL (a.take (k + 1)) b = diffL (a.take k) b ++ if a[k] ∉ b then [a[k]] else [] := by
  unfold diffL
  rw [take_succ_get hk, List.filter_append]
  by_cases h : a[k] ∈ b
  · simp [h]
  · simp [h]
theorem diffL_len (a b : List Int) (k : Nat) : (diffL (a.take k) b).length ≤ k := by
  unfold diffL
  exact Nat.le_trans (List.length_filter_le _ _) (List.length_take_le k a)
attribute [local irreducible] AW AOps thenD inBlockD AR iterEnds roundEndsN inlEnds noGotoD cntL diffL
/-- inclusion. -/
def subL (a b : List Int) : Bool := a.all fun t => decide (t ∈ b)
end Go.Ab
/- Chapter 05: all tuples over columns of given sorts, walked: a function that yields, ranged over within itself. -/
namespace Go.Ab
open Go Go.Proofs
set_option maxRecDepth 20000
set_option maxHeartbeats 8000000
def rngI (a : Int) (k : Nat) : List Int := (List.range k).map fun (i : Nat) => a + i
attribute [local irreducible] AW AOps thenD inBlockD AR iterEnds roundEndsN inlEnds noGotoD rngI
end Go.Ab
/- Chapter 05: all tuples over two columns, walked: iterators in iterators. -/
namespace Go.Ab
open Go Go.Proofs
set_option maxRecDepth 20000
set_option maxHeartbeats 8000000
/-- the ranks of all tuples behind a prefix: one column's first atom and size after the other. -/
def rks (n : Int) : Int → List (Int × Nat) → List Int
  | p, [] => [p]
  | p, (f, z) :: l => (List.range z).flatMap fun i => rks n (p * n + (f + (i : Nat))) l
/-- the first columns' rows up to i. -/
def rksTo (n : Int) (p : Int) (f : Int) (i : Nat) (l : List (Int × Nat)) : List Int := (List.range i).flatMap fun i => rks n (p * n + (f + (i : Nat))) l
theorem rks_nil (n p : Int) : rks n p [] = [p] := rfl
attribute [local irreducible] AW AOps thenD inBlockD AR iterEnds roundEndsN inlEnds noGotoD rks rksTo
end Go.Ab
/- Chapter 05: all tuples over three columns, walked. -/
namespace Go.Ab
open Go Go.Proofs
set_option maxRecDepth 20000
set_option maxHeartbeats 8000000
attribute [local irreducible] AW AOps thenD inBlockD AR iterEnds roundEndsN inlEnds noGotoD rks rksTo
end Go.Ab
/- Chapter 07: a field's columns. -/
namespace Go.Ab
open Go Go.Proofs
set_option maxRecDepth 20000
set_option maxHeartbeats 8000000
attribute [local irreducible] AW AOps thenD inBlockD AR iterEnds roundEndsN inlEnds noGotoD
abbrev fld (f : FieldM) : AV := .agg [.pv (.lit (.string f.name)), .pv (ints f.sorts), litB f.var]
def insB (k : Nat) (l : List Int) : Bool := l.all fun s => decide (0 ≤ s ∧ s < k)
def colsB (k : Nat) (l : List Int) : Bool := decide (1 ≤ l.length ∧ l.length ≤ 3) && insB k l
end Go.Ab
/- Chapter 07: model.Valid, walked over whatever contract universe.Full has at the specification's fields. -/
namespace Go.Ab
open Go Go.Proofs
set_option maxRecDepth 20000
set_option maxHeartbeats 16000000
attribute [local irreducible] AW AOps thenD inBlockD AR iterEnds roundEndsN inlEnds noGotoD
end Go.Ab
/- Chapter 07's reference: sorts of atoms, columns, well-formed models. -/
namespace Go.Ab
open Go Go.Proofs
open Nat (reduceAdd reduceSub)
set_option maxRecDepth 20000
set_option maxHeartbeats 8000000
/-- the sort of an atom, counted on from i. -/
def sortF : List Int → Int → Int → Int
  | [], _, _ => -1
  | a :: l, x, i => if x < a then i else sortF l (x - a) (i + 1)
attribute [local irreducible] AW AOps thenD inBlockD AR iterEnds roundEndsN inlEnds noGotoD
/-- the columns of a tuple's rank, the last one first. -/
def colsF (at' : List Int) (n : Int) : List Int → Int → Bool
  | [], _ => true
  | s :: ss, r => decide (sortF at' (r % n) 0 = s) && colsF at' n ss (r / n)
end Go.Ab
/- Chapter 05 and 07: all tuples over columns; the two tests for a well-formed model are one. -/
namespace Go.Ab
open Go Go.Proofs
set_option maxRecDepth 20000
set_option maxHeartbeats 2000000
def colL (at' : List Int) (l : List Int) : List (Int × Nat) := l.map fun s => ((at'.take s.toNat).sum, (at'.getD s.toNat 0).toNat)
def fullR (at' : List Int) (l : List Int) : RelM := ((l.length : Int), rks at'.sum 0 (colL at' l))
theorem insB_at {k : Nat} {l : List Int} (h : insB k l = true) : ∀ s ∈ l, 0 ≤ s ∧ s < k := by
  unfold insB at h
  rw [List.all_eq_true] at h
  intro s hs
  simpa using h s hs
theorem getD_at {at' : List Int} {k : Nat} (h : k < at'.length) : at'.getD k 0 = at'[k] := by rw [List.getD_eq_getElem?_getD, List.getElem?_eq_getElem h]; rfl
theorem sum_nn : ∀ {l : List Int}, (∀ x ∈ l, 0 ≤ x) → 0 ≤ l.sum
  | [], _ => by simp
  | a :: l, h => by
    have := sum_nn (l := l) fun x hx => h x (by simp [hx])
    have := h a (by simp)
    simp; omega
theorem sortF_ge {l : List Int} : ∀ {x i : Int}, 0 ≤ i → sortF l x i = -1 ∨ i ≤ sortF l x i := by
  induction l with
  | nil => intro x i _; exact .inl rfl
  | cons a l ih =>
    intro x i hi
    unfold sortF
    split
    · right; omega
    · rcases ih (x := x - a) (i := i + 1) (by omega) with h | h
      · exact .inl h
      · right; omega
theorem sortF_iff {l : List Int} : ∀ {x i : Int} {k : Nat}, (∀ y ∈ l, 0 ≤ y) → 0 ≤ x → 0 ≤ i → k < l.length → (sortF l x i = i + k ↔ (l.take k).sum ≤ x ∧ x < (l.take k).sum + l.getD k 0) := by
  induction l with
  | nil => intro x i k _ _ _ hk; simp at hk
  | cons a l ih =>
    intro x i k hp hx hi hk
    unfold sortF
    have ha := hp a (by simp)
    have hpl : ∀ y ∈ l, 0 ≤ y := fun y hy => hp y (by simp [hy])
    cases k with
    | zero =>
      simp only [List.take_zero, List.sum_nil, List.getD_cons_zero]
      by_cases hc : x < a
      · rw [if_pos hc]; simp; omega
      · rw [if_neg hc]
        constructor
        · intro h
          rcases sortF_ge (l := l) (x := x - a) (i := i + 1) (by omega) with h2 | h2 <;> omega
        · omega
    | succ k =>
      simp only [List.take_succ_cons, List.sum_cons, List.getD_cons_succ]
      have hk' : k < l.length := by simpa using hk
      by_cases hc : x < a
      · rw [if_pos hc]
        have h2 : 0 ≤ (l.take k).sum := sum_nn fun y hy => hpl y (List.mem_of_mem_take hy)
        constructor
        · intro h; push_cast at h; omega
        · omega
      · rw [if_neg hc]
        have := ih (x := x - a) (i := i + 1) (k := k) hpl (by omega) (by omega) hk'
        push_cast
        rw [show i + ((k : Int) + 1) = i + 1 + k by omega, this]
        omega
theorem rks_snoc (n : Int) : ∀ (l : List (Int × Nat)) (p f : Int) (z : Nat) (t : Int), t ∈ rks n p (l ++ [(f, z)]) ↔ ∃ q ∈ rks n p l, ∃ i : Nat, i < z ∧ t = q * n + (f + i)
  | [], p, f, z, t => by
    simp only [List.nil_append, rks, List.mem_flatMap, List.mem_range, List.mem_singleton, exists_eq_left]
  | (f', z') :: l, p, f, z, t => by
    simp only [List.cons_append, rks, List.mem_flatMap, List.mem_range]
    constructor
    · rintro ⟨i, hi, h⟩
      obtain ⟨q, hq, r⟩ := (rks_snoc n l _ f z t).1 h
      exact ⟨q, ⟨i, hi, hq⟩, r⟩
    · rintro ⟨q, ⟨i, hi, hq⟩, r⟩
      exact ⟨i, hi, (rks_snoc n l _ f z t).2 ⟨q, hq, r⟩⟩
theorem take_le {at' : List Int} (hp : ∀ y ∈ at', 0 ≤ y) {k : Nat} (hk : k < at'.length) : 0 ≤ (at'.take k).sum ∧ (at'.take k).sum + at'.getD k 0 ≤ at'.sum := by
  refine ⟨sum_nn fun y hy => hp y (List.mem_of_mem_take hy), ?_⟩
  have e : at'.sum = (at'.take k).sum + (at'.drop k).sum := by rw [← List.sum_append, List.take_append_drop]
  have h2 : (at'.drop k).sum = at'[k] + (at'.drop (k + 1)).sum := by rw [List.drop_eq_getElem_cons hk, List.sum_cons]
  have h3 : 0 ≤ (at'.drop (k + 1)).sum := sum_nn fun y hy => hp y (List.mem_of_mem_drop hy)
  rw [getD_at hk]
  omega
theorem mem_full {at' : List Int} (hp : ∀ y ∈ at', 0 ≤ y) : ∀ (l : List Int), (∀ s ∈ l, 0 ≤ s ∧ s < at'.length) → ∀ t : Int, (t ∈ rks at'.sum 0 (colL at' l) ↔ 0 ≤ t ∧ colsF at' at'.sum l.reverse t = true ∧ t < at'.sum ^ l.length) := by
  intro l
  generalize hm : l.length = m
  induction m generalizing l with
  | zero =>
    intro _ t
    obtain rfl := List.eq_nil_of_length_eq_zero hm
    simp [colL, rks, colsF]
    omega
  | succ m ih =>
    intro hs t
    obtain ⟨l', s, rfl⟩ : ∃ l' s, l = l' ++ [s] := ⟨l.dropLast, l.getLast (by intro e; subst e; simp at hm), (List.dropLast_concat_getLast _).symm⟩
    have hm' : l'.length = m := by simpa using hm
    have hs' := hs s (by simp)
    have hsl : ∀ x ∈ l', 0 ≤ x ∧ x < at'.length := fun x hx => hs x (by simp [hx])
    obtain ⟨k, rfl⟩ : ∃ k : Nat, s = (k : Int) := ⟨s.toNat, by omega⟩
    have hk : k < at'.length := by omega
    have ht1 := take_le hp hk
    have e1 : colL at' (l' ++ [(k : Int)]) = colL at' l' ++ [((at'.take k).sum, (at'.getD k 0).toNat)] := by simp [colL]
    rw [e1, rks_snoc, List.reverse_append]
    show _ ↔ 0 ≤ t ∧ colsF at' at'.sum ((k : Int) :: l'.reverse) t = true ∧ _
    unfold colsF
    rw [Bool.and_eq_true, decide_eq_true_eq]
    have ih := ih l' hm' hsl
    have hzz : 0 ≤ at'.getD k 0 := by rw [getD_at hk]; exact hp _ (List.getElem_mem hk)
    by_cases hn : at'.sum = 0
    · constructor
      · rintro ⟨q, _, i, hi, _⟩; omega
      · rintro ⟨h0, _, h⟩
        rw [hn, Int.zero_pow (by omega)] at h
        omega
    have hpos : 0 < at'.sum := by omega
    have hiff := sortF_iff (l := at') (x := t % at'.sum) (i := 0) (k := k) hp (Int.emod_nonneg _ (by omega)) (by omega) hk
    rw [Int.zero_add] at hiff
    rw [hiff]
    generalize (at'.take k).sum = f at ht1 ⊢
    generalize at'.getD k 0 = z at ht1 hzz ⊢
    generalize at'.sum = n at *
    have hpw : n ^ (m + 1) = n ^ m * n := Int.pow_succ _ _
    constructor
    · rintro ⟨q, hq, i, hi, rfl⟩
      obtain ⟨q0, q1, q2⟩ := (ih q).1 hq
      have hu := (Int.ediv_emod_unique (a := q * n + (f + i)) (b := n) (r := f + i) (q := q) hpos).2 ⟨by rw [Int.mul_comm n q]; omega, by omega, by omega⟩
      rw [hu.1, hu.2]
      have h1 : 0 ≤ q * n := Int.mul_nonneg q0 (by omega)
      have h2 : (q + 1) * n ≤ n ^ m * n := Int.mul_le_mul_of_nonneg_right (by omega) (by omega)
      rw [Int.add_mul, Int.one_mul] at h2
      exact ⟨by omega, ⟨⟨by omega, by omega⟩, q1⟩, by rw [hpw]; omega⟩
    · rintro ⟨h0, ⟨⟨h1, h2⟩, h3⟩, h4⟩
      rw [hpw] at h4
      refine ⟨t / n, (ih _).2 ⟨Int.ediv_nonneg h0 (by omega), h3, Int.ediv_lt_of_lt_mul hpos h4⟩, (t % n - f).toNat, by omega, ?_⟩
      have := Int.mul_ediv_add_emod t n
      rw [Int.mul_comm] at this
      omega
end Go.Ab
/- Go's slices.Grow of nothing, slices.Concat; the union of relations. -/
namespace Go.Ab
open Go Go.Proofs
set_option maxRecDepth 20000
set_option maxHeartbeats 4000000
attribute [local irreducible] AW AOps thenD inBlockD AR iterEnds roundEndsN inlEnds noGotoD canon sortL compL compZ
end Go.Ab
/- Chapter 06's reference: rising lists, searched and added to. -/
namespace Go.Ab
open Go Go.Proofs
open Nat (reduceAdd reduceSub)
set_option maxRecDepth 20000
set_option maxHeartbeats 4000000
attribute [local irreducible] AW AOps thenD inBlockD AR iterEnds roundEndsN inlEnds noGotoD canon
end Go.Ab
/- Chapter 06: the intersection. -/
namespace Go.Ab
open Go Go.Proofs
set_option maxRecDepth 20000
set_option maxHeartbeats 4000000
def interL (a b : List Int) : List Int := a.filter fun t => decide (t ∈ b)
attribute [local irreducible] AW AOps thenD inBlockD AR iterEnds roundEndsN inlEnds noGotoD cntL interL
end Go.Ab
/- Chapter 06's reference: a list put in order, unions, meets, differences, inclusion. -/
namespace Go.Ab
open Go Go.Proofs
open Nat (reduceAdd reduceSub)
set_option maxRecDepth 20000
set_option maxHeartbeats 4000000
attribute [local irreducible] AW AOps thenD inBlockD AR iterEnds roundEndsN inlEnds noGotoD canon diffL interL
end Go.Ab
/- Chapter 05's reference: first atoms, sorts, ranks, tuples. -/
namespace Go.Ab
open Go Go.Proofs
open Nat (reduceAdd reduceSub)
set_option maxRecDepth 20000
set_option maxHeartbeats 4000000
theorem sortF_none {l : List Int} : ∀ {x i : Int}, 0 ≤ i → (∀ k : Nat, k < l.length → sortF l x i ≠ i + k) → sortF l x i = -1 := by
  induction l with
  | nil => intro x i _ _; rfl
  | cons a l ih =>
    intro x i hi h
    unfold sortF at h ⊢
    by_cases hc : x < a
    · exact absurd (by rw [if_pos hc]; simp) (h 0 (by simp))
    · rw [if_neg hc]
      refine ih (by omega) fun k hk e => ?_
      have := h (k + 1) (by simp; omega)
      rw [if_neg hc, e] at this
      exact this (by push_cast; omega)
theorem sortF_at {l : List Int} (hp : ∀ y ∈ l, 0 ≤ y) {x : Int} (hx : 0 ≤ x) {k : Nat} (hk : k < l.length) : sortF l x 0 = k ↔ (l.take k).sum ≤ x ∧ x < (l.take (k + 1)).sum := by
  have := sortF_iff (l := l) (x := x) (i := 0) (k := k) hp hx (by omega) hk
  rw [Int.zero_add, getD_at hk] at this
  rw [this, sum_snoc l hk]
/-- a rank's atoms. -/
def digL (n : Int) : Nat → Int → List Int
  | 0, _ => []
  | k + 1, r => digL n k (r / n) ++ [r % n]
theorem digL_len (n : Int) : ∀ (k : Nat) (r : Int), (digL n k r).length = k
  | 0, _ => rfl
  | k + 1, r => by simp [digL, digL_len n k]
attribute [local irreducible] AW AOps thenD inBlockD AR iterEnds roundEndsN inlEnds noGotoD
theorem r5First_fn (at' : List Int) (st : Int) (s : Nat) (h : SmA at') (hs : s ≤ at'.length) : Fn Try.prog 119 [scp at' st, litI s] (litI (at'.take s).sum) := by
  have hb := h.take
  have hle := h.1
  refine Fn.enter (n := 27) Try.func119 rfl rfl rfl rfl rfl (by decide) fun g hro_ hwt_ => ?_; (try refine nz ?_)
  (refine zq ?_; refine AOps.box rfl rfl rfl rfl ?_; refine nz ?_; refine za ?_; refine zd ?_; refine zq ?_; refine nz ?_; refine za ?_; refine zd ?_; refine zo ?_; refine zq ?_; refine nz ?_; refine za ?_; refine zd ?_; refine AW.block ?_)
  (refine nz ?_; apply AW.loopR [4, 2, 1] [0] (fun i : Nat => ([(5, litI (at'.take i).sum), (6, litI i)] : List (Nat × AV))) (fun i : Nat => ([] : List (Nat × Option Ob))) (fun i : Nat => i ≤ s) (fun i : Nat => s - i) (0); (conv => lhs; simp only [Nf.lpR, Nf.all, Nat.reduceBEq, reduceAdd, reduceSub]); (all_goals skip))
  · exact Nat.zero_le _
  · exact weak rfl (by (refine ⟨.eq rfl rfl, ?_⟩; (iterate 4 refine ⟨.eq rfl rfl, ?_⟩); exact trivial)) (by (refine ⟨.box _ rfl ?_, ?_⟩; (iterate 2 refine ⟨.eq rfl rfl, ?_⟩); (iterate 2 exact trivial))) rfl
  rintro i hi
  by_cases hlt : i < s
  · have hlt2 : i < at'.length := by omega
    have hs1 := sum_snoc at' hlt2
    have h1 := hb i
    have h2 := hb (i + 1)
    (refine zo ?_; refine zq ?_; (iterate 2 refine zm ?_); refine zs ?_; refine zm ?_; refine zt ?_; refine zm ?_; refine zt ?_; refine AOps.fieldAddrN 49 0 0 rfl rfl rfl rfl ?_; refine zt ?_; refine zb ?_; refine zt ?_; refine zn ?_; refine zt ?_; refine zs ?_; refine AOps.pickT_pv rfl rfl (by first | omega | decide) rfl rfl rfl rfl ?_; refine zd ?_; refine zc ?_; refine AW.skip ?_; refine thenD_n ?_; refine zo ?_; refine AW.block ?_; refine AW.region ?_; refine nz ?_; refine zm ?_; refine AOps.fieldAddrN 49 0 0 rfl rfl rfl rfl ?_; refine zb ?_; refine zm ?_; (focus ((with_reducible apply AOps.index_map); (iterate 7 exact rfl); rotate_left; omega)); refine zr ?_; refine AOps.add rfl rfl rfl rfl rfl (by omega) ?_; refine za ?_; refine AOps.nil ?_; refine inBlockD_n ?_; refine thenD_n ?_; refine AW.region ?_; refine nz ?_; refine zm ?_; refine AOps.add rfl rfl rfl rfl rfl (by omega) ?_; refine za ?_; refine zd ?_)
    exact ⟨i + 1, by omega, by omega, weak rfl (by (refine ⟨.intE (by first | with_reducible rfl | (first | rfl | (rw [hs1]))), ?_⟩; refine ⟨.intE (by first | with_reducible rfl | (first | rfl | (rw [hs1]))), ?_⟩; refine ⟨.intE (by first | with_reducible rfl | (first | rfl | (rw [hs1]))), ?_⟩; refine ⟨.eq rfl rfl, ?_⟩; refine ⟨.intE (by first | with_reducible rfl | (first | rfl | (rw [hs1]))), ?_⟩; exact trivial)) (by (refine ⟨.box _ rfl ?_, ?_⟩; refine ⟨.pvE (by first | with_reducible rfl | (first | rfl | (rw [hs1]))), ?_⟩; refine ⟨.intE (by first | with_reducible rfl | (first | rfl | (rw [hs1]))), ?_⟩; (iterate 2 exact trivial))) rfl⟩
  · obtain rfl : i = s := by omega
    (refine zo ?_; refine zq ?_; (iterate 2 refine zm ?_); refine zs ?_; refine zm ?_; (iterate 5 refine AOps.guardTn rfl rfl rfl rfl rfl rfl (by first | omega | decide) ?_); refine AOps.pickF_pv rfl rfl (by first | omega | decide) rfl rfl rfl rfl ?_; refine zd ?_; refine AW.cond_lf rfl rfl ?_; refine AW.exit ?_; (iterate 2 refine thenD_exit ?_); refine inBlockD_exit ?_; refine thenD_n ?_; refine zq ?_; refine nz ?_; refine zm ?_; refine za ?_; refine zd ?_; refine AW.ret ?_)
    all_goals (apply ends_ret; (exact Res.one (.tmp rfl rfl)); (refine Le.litI ?_; (rfl)))
theorem r5Atoms_fn (at' : List Int) (st : Int) (h : SmA at') : Fn Try.prog 104 [scp at' st] (litI at'.sum) := by
  have hf := r5First_fn at' st at'.length h (Nat.le_refl _)
  rw [List.take_length] at hf
  refine Fn.enter (n := 8) Try.func104 rfl rfl rfl rfl rfl (by decide) fun g hro_ hwt_ => ?_; (try refine nz ?_)
  (refine zq ?_; refine AOps.box rfl rfl rfl rfl ?_; refine nz ?_; refine za ?_; refine zd ?_; refine zq ?_; refine nz ?_; refine AOps.load_ball rfl rfl rfl rfl rfl ?_; refine nz ?_; refine AOps.fieldAddrN 49 0 0 rfl rfl rfl rfl ?_; refine zb ?_; refine zn ?_; (with_reducible apply AOps.call (hf)); (repeat (first | exact .nil | (refine .cons rfl ?_ ?_; (first | exact .pv _ | exact .own _ _ _ _ rfl | exact .nil _ | exact .any _ | exact .rptr _ | (refine .aggL ?_; repeat (first | exact .nil | (refine .cons ?_ ?_; (first | exact .pv _ | exact .own _ _ _ _ rfl | exact .nil _)))))))); exact rfl; exact rfl; exact (fun h_ => by cases h_); refine za ?_; refine zd ?_; refine AW.ret ?_)
  (apply ends_ret; (exact Res.one (.tmp rfl rfl)); (refine Le.litI ?_; (rfl)))
theorem r5SortOf_fn (at' : List Int) (st x : Int) (h : SmA at') (hx : 0 ≤ x) : Fn Try.prog 105 [scp at' st, litI x] (litI (sortF at' x 0)) := by
  have hle := h.1
  have hp : ∀ y ∈ at', 0 ≤ y := fun y hy => (h.2 y hy).1
  refine Fn.enter (n := 27) Try.func105 rfl rfl rfl rfl rfl (by decide) fun g hro_ hwt_ => ?_; (try refine nz ?_)
  (refine zq ?_; refine AOps.box rfl rfl rfl rfl ?_; refine nz ?_; refine za ?_; refine zd ?_; refine zo ?_; refine zq ?_; refine nz ?_; refine za ?_; refine zd ?_; refine AW.block ?_)
  (refine nz ?_; apply AW.loopR [2, 1] [0] (fun i : Nat => ([(5, litI i)] : List (Nat × AV))) (fun i : Nat => ([] : List (Nat × Option Ob))) (fun i : Nat => i ≤ at'.length ∧ ∀ j, j < i → sortF at' x 0 ≠ (j : Nat)) (fun i : Nat => at'.length - i) (0); (conv => lhs; simp only [Nf.lpR, Nf.all, Nat.reduceBEq, reduceAdd, reduceSub]); (all_goals skip))
  · exact ⟨Nat.zero_le _, fun j hj => by omega⟩
  · exact weak rfl (by (refine ⟨.eq rfl rfl, ?_⟩; (iterate 2 refine ⟨.eq rfl rfl, ?_⟩); exact trivial)) (by (refine ⟨.box _ rfl ?_, ?_⟩; (iterate 2 refine ⟨.eq rfl rfl, ?_⟩); (iterate 2 exact trivial))) rfl
  rintro i ⟨hi, hno⟩
  by_cases hlt : i < at'.length
  · have h1 := r5First_fn at' st i h (by omega)
    have h2 := r5First_fn at' st (i + 1) h (by omega)
    rw [show ((i + 1 : Nat) : Int) = (i : Int) + 1 by omega] at h2
    have hq := sortF_at hp hx hlt
    by_cases hc : (at'.take i).sum ≤ x ∧ x < (at'.take (i + 1)).sum
    · have he := hq.2 hc
      rw [he]
      (refine zo ?_; refine zq ?_; refine zm ?_; refine AOps.fieldAddrN 49 0 0 rfl rfl rfl rfl ?_; refine zb ?_; refine zn ?_; refine zs ?_; refine zd ?_; refine zc ?_; refine AW.skip ?_; refine thenD_n ?_; refine zo ?_; refine AW.block ?_; refine zq ?_; refine nz ?_; refine zm ?_; refine AOps.load_ball rfl rfl rfl rfl rfl ?_; refine nz ?_; refine zm ?_; (with_reducible apply AOps.call (h1)); (repeat (first | exact .nil | (refine .cons rfl ?_ ?_; (first | exact .pv _ | exact .own _ _ _ _ rfl | exact .nil _ | exact .any _ | exact .rptr _ | (refine .aggL ?_; repeat (first | exact .nil | (refine .cons ?_ ?_; (first | exact .pv _ | exact .own _ _ _ _ rfl | exact .nil _)))))))); exact rfl; exact rfl; exact (fun h_ => by cases h_); refine AOps.geq rfl rfl rfl rfl rfl ?_; refine zm ?_; refine zt ?_; refine zm ?_; refine zt ?_; refine AOps.load_ball rfl rfl rfl rfl rfl ?_; refine nz ?_; refine zt ?_; refine zm ?_; refine zt ?_; refine AOps.add rfl rfl rfl rfl rfl (by omega) ?_; refine zt ?_; (with_reducible apply AOps.call (h2)); (repeat (first | exact .nil | (refine .cons rfl ?_ ?_; (first | exact .pv _ | exact .own _ _ _ _ rfl | exact .nil _ | exact .any _ | exact .rptr _ | (refine .aggL ?_; repeat (first | exact .nil | (refine .cons ?_ ?_; (first | exact .pv _ | exact .own _ _ _ _ rfl | exact .nil _)))))))); exact rfl; exact rfl; exact (fun h_ => by cases h_); refine zt ?_; refine zs ?_; refine AOps.pickT_pv rfl rfl (by first | omega | decide) rfl rfl rfl rfl ?_; refine zd ?_; refine zc ?_; refine zq ?_; refine nz ?_; refine zm ?_; refine za ?_; refine zd ?_; refine AW.ret ?_; refine inBlockD_ret ?_; (iterate 2 refine thenD_ret ?_); refine inBlockD_ret ?_; refine thenD_ret ?_)
      all_goals (apply ends_ret; (exact Res.one (.tmp rfl rfl)); (refine Le.litI ?_; (rfl)))
    · (refine zo ?_; refine zq ?_; refine zm ?_; refine AOps.fieldAddrN 49 0 0 rfl rfl rfl rfl ?_; refine zb ?_; refine zn ?_; refine zs ?_; refine zd ?_; refine zc ?_; refine AW.skip ?_; refine thenD_n ?_; refine zo ?_; refine AW.block ?_; refine zq ?_; refine nz ?_; refine zm ?_; refine AOps.load_ball rfl rfl rfl rfl rfl ?_; refine nz ?_; refine zm ?_; (with_reducible apply AOps.call (h1)); (repeat (first | exact .nil | (refine .cons rfl ?_ ?_; (first | exact .pv _ | exact .own _ _ _ _ rfl | exact .nil _ | exact .any _ | exact .rptr _ | (refine .aggL ?_; repeat (first | exact .nil | (refine .cons ?_ ?_; (first | exact .pv _ | exact .own _ _ _ _ rfl | exact .nil _)))))))); exact rfl; exact rfl; exact (fun h_ => by cases h_); refine AOps.geq rfl rfl rfl rfl rfl ?_; refine zm ?_; (focus ((with_reducible apply AOps.guardT); (iterate 6 exact rfl); all_goals intro hc_)); refine zm ?_; refine AOps.guardTy rfl rfl rfl rfl rfl rfl (by with_reducible assumption) ?_; refine AOps.load_ball rfl rfl rfl rfl rfl ?_; refine nz ?_; refine AOps.guardTy rfl rfl rfl rfl rfl rfl (by with_reducible assumption) ?_; refine zm ?_; refine AOps.guardTy rfl rfl rfl rfl rfl rfl (by with_reducible assumption) ?_; refine AOps.add rfl rfl rfl rfl rfl (by omega) ?_; refine AOps.guardTy rfl rfl rfl rfl rfl rfl (by with_reducible assumption) ?_; (with_reducible apply AOps.call (h2)); (repeat (first | exact .nil | (refine .cons rfl ?_ ?_; (first | exact .pv _ | exact .own _ _ _ _ rfl | exact .nil _ | exact .any _ | exact .rptr _ | (refine .aggL ?_; repeat (first | exact .nil | (refine .cons ?_ ?_; (first | exact .pv _ | exact .own _ _ _ _ rfl | exact .nil _)))))))); exact rfl; exact rfl; exact (fun h_ => by cases h_); refine AOps.guardTy rfl rfl rfl rfl rfl rfl (by with_reducible assumption) ?_; refine zs ?_; refine AOps.pickT_pv rfl rfl (by with_reducible assumption) rfl rfl rfl rfl ?_; refine zd ?_; refine zk ?_; refine AW.skip ?_; refine inBlockD_n ?_; refine thenD_n ?_; refine AW.region ?_; refine nz ?_; refine zm ?_; refine AOps.add rfl rfl rfl rfl rfl (by omega) ?_; refine za ?_; refine zd ?_; (all_goals skip); rotate_left; (iterate 5 refine AOps.guardTn rfl rfl rfl rfl rfl rfl (by with_reducible assumption) ?_); refine AOps.pickF_pv rfl rfl (by with_reducible assumption) rfl rfl rfl rfl ?_; refine zd ?_; refine AW.cond_lf rfl rfl ?_; refine AW.skip ?_; refine inBlockD_n ?_; refine thenD_n ?_; refine AW.region ?_; refine nz ?_; refine zm ?_; refine AOps.add rfl rfl rfl rfl rfl (by omega) ?_; refine za ?_; refine zd ?_; (all_goals skip); rotate_left)
      all_goals exact ⟨i + 1, ⟨by omega, fun j hj => by
        rcases Nat.lt_or_eq_of_le (Nat.le_of_lt_succ hj) with h | rfl
        · exact hno j h
        · exact fun e => hc (hq.1 e)⟩, by omega, weak rfl (by (refine ⟨.eq rfl rfl, ?_⟩; (iterate 2 refine ⟨.eq rfl rfl, ?_⟩); exact trivial)) (by (refine ⟨.box _ rfl ?_, ?_⟩; (iterate 2 refine ⟨.eq rfl rfl, ?_⟩); (iterate 2 exact trivial))) rfl⟩
  · have he : sortF at' x 0 = -1 := sortF_none (by omega) fun k hk => by
      have := hno k (by omega)
      omega
    rw [he]
    (refine zo ?_; refine zq ?_; refine zm ?_; refine AOps.fieldAddrN 49 0 0 rfl rfl rfl rfl ?_; refine zb ?_; refine zn ?_; refine zs ?_; refine zd ?_; refine zk ?_; refine AW.exit ?_; (iterate 2 refine thenD_exit ?_); refine inBlockD_exit ?_; refine thenD_n ?_; refine zq ?_; refine nz ?_; refine za ?_; refine zd ?_; refine AW.ret ?_)
    (apply ends_ret; (exact Res.one (.tmp rfl rfl)); (refine Le.litI ?_; (rfl)))
theorem r5Ranks_fn (at' : List Int) (st : Int) (k : Nat) (h : SmA at') (hs : at'.sum ≤ 1000) (hk : k ≤ 3) : Fn Try.prog 74 [scp at' st, litI k] (litI (at'.sum ^ k)) := by
  have ha := r5Atoms_fn at' st h
  have hb := h.take at'.length
  rw [List.take_length] at hb
  have hpb := pow_bound (n := at'.sum) ⟨hb.1, hs⟩
  generalize at'.sum = n at *
  refine Fn.enter (n := 21) Try.func74 rfl rfl rfl rfl rfl (by decide) fun g hro_ hwt_ => ?_; (try refine nz ?_)
  (refine zq ?_; refine AOps.box rfl rfl rfl rfl ?_; refine nz ?_; refine za ?_; refine zd ?_; refine zq ?_; refine nz ?_; refine za ?_; refine zd ?_; refine zo ?_; refine zq ?_; refine nz ?_; refine za ?_; refine zd ?_; refine AW.block ?_)
  (refine nz ?_; apply AW.loopR [4, 2, 1] [0] (fun i : Nat => ([(5, litI (n ^ i)), (6, litI i)] : List (Nat × AV))) (fun i : Nat => ([] : List (Nat × Option Ob))) (fun i : Nat => i ≤ k) (fun i : Nat => k - i) (0); (conv => lhs; simp only [Nf.lpR, Nf.all, Nat.reduceBEq, reduceAdd, reduceSub]); (all_goals skip))
  · exact Nat.zero_le _
  · exact weak rfl (by (refine ⟨.intE (by first | with_reducible rfl | (first | rfl | exact (Int.pow_zero n).symm)), ?_⟩; refine ⟨.intE (by first | with_reducible rfl | (first | rfl | exact (Int.pow_zero n).symm)), ?_⟩; refine ⟨.intE (by first | with_reducible rfl | (first | rfl | exact (Int.pow_zero n).symm)), ?_⟩; refine ⟨.eq rfl rfl, ?_⟩; refine ⟨.intE (by first | with_reducible rfl | (first | rfl | exact (Int.pow_zero n).symm)), ?_⟩; exact trivial)) (by (refine ⟨.box _ rfl ?_, ?_⟩; refine ⟨.pvE (by first | with_reducible rfl | (first | rfl | exact (Int.pow_zero n).symm)), ?_⟩; refine ⟨.intE (by first | with_reducible rfl | (first | rfl | exact (Int.pow_zero n).symm)), ?_⟩; (iterate 2 exact trivial))) rfl
  rintro i hi
  by_cases hlt : i < k
  · have h1 := hpb i (by omega)
    have h2 := hpb (i + 1) (by omega)
    have he : n ^ (i + 1) = n ^ i * n := Int.pow_succ _ _
    rw [he] at h2
    (refine zo ?_; refine zq ?_; (iterate 2 refine zm ?_); refine zs ?_; refine zm ?_; refine zt ?_; refine zm ?_; refine zt ?_; refine zs ?_; refine AOps.pickT_pv rfl rfl (by first | omega | decide) rfl rfl rfl rfl ?_; refine zd ?_; refine zc ?_; refine AW.skip ?_; refine thenD_n ?_; refine zo ?_; refine AW.block ?_; refine AW.region ?_; refine nz ?_; refine zm ?_; refine AOps.load_ball rfl rfl rfl rfl rfl ?_; refine nz ?_; (with_reducible apply AOps.call (ha)); (repeat (first | exact .nil | (refine .cons rfl ?_ ?_; (first | exact .pv _ | exact .own _ _ _ _ rfl | exact .nil _ | exact .any _ | exact .rptr _ | (refine .aggL ?_; repeat (first | exact .nil | (refine .cons ?_ ?_; (first | exact .pv _ | exact .own _ _ _ _ rfl | exact .nil _)))))))); exact rfl; exact rfl; exact (fun h_ => by cases h_); refine AOps.mul rfl rfl rfl rfl rfl (by omega) ?_; refine za ?_; refine AOps.nil ?_; refine inBlockD_n ?_; refine thenD_n ?_; refine AW.region ?_; refine nz ?_; refine zm ?_; refine AOps.add rfl rfl rfl rfl rfl (by omega) ?_; refine za ?_; refine zd ?_)
    exact ⟨i + 1, by omega, by omega, weak rfl (by (refine ⟨.intE (by first | with_reducible rfl | (first | rfl | (rw [he]))), ?_⟩; refine ⟨.intE (by first | with_reducible rfl | (first | rfl | (rw [he]))), ?_⟩; refine ⟨.intE (by first | with_reducible rfl | (first | rfl | (rw [he]))), ?_⟩; refine ⟨.eq rfl rfl, ?_⟩; refine ⟨.intE (by first | with_reducible rfl | (first | rfl | (rw [he]))), ?_⟩; exact trivial)) (by (refine ⟨.box _ rfl ?_, ?_⟩; refine ⟨.pvE (by first | with_reducible rfl | (first | rfl | (rw [he]))), ?_⟩; refine ⟨.intE (by first | with_reducible rfl | (first | rfl | (rw [he]))), ?_⟩; (iterate 2 exact trivial))) rfl⟩
  · obtain rfl : i = k := by omega
    (refine zo ?_; refine zq ?_; (iterate 2 refine zm ?_); refine zs ?_; refine zm ?_; (iterate 2 refine AOps.guardTn rfl rfl rfl rfl rfl rfl (by first | omega | decide) ?_); refine AOps.pickF_pv rfl rfl (by first | omega | decide) rfl rfl rfl rfl ?_; refine zd ?_; refine AW.cond_lf rfl rfl ?_; refine AW.exit ?_; (iterate 2 refine thenD_exit ?_); refine inBlockD_exit ?_; refine thenD_n ?_; refine zq ?_; refine nz ?_; refine zm ?_; refine za ?_; refine zd ?_; refine AW.ret ?_)
    all_goals (apply ends_ret; (exact Res.one (.tmp rfl rfl)); (refine Le.litI ?_; (rfl)))
end Go.Ab
/- Chapter 05's reference: the atoms of a rank. -/
namespace Go.Ab
open Go Go.Proofs
open Nat (reduceAdd reduceSub)
set_option maxRecDepth 20000
set_option maxHeartbeats 4000000
theorem set_zeros {j : Nat} {D E : List Int} {x : Int} : (List.replicate (j + 1) 0 ++ D ++ E).set j x = List.replicate j 0 ++ (x :: D) ++ E := by
  rw [List.append_assoc, List.set_append_left _ _ (by simp), List.append_assoc]
  have e : (List.replicate (j + 1) (0 : Int)).set j x = List.replicate j 0 ++ [x] := by
    rw [List.replicate_succ', List.set_append_right _ _ (by simp)]
    simp
  rw [e]
  simp
attribute [local irreducible] AW AOps thenD inBlockD AR iterEnds roundEndsN inlEnds noGotoD
theorem r5Tuple_fn (at' : List Int) (st : Int) (k : Nat) (r : Int) (h : SmA at') (hs : at'.sum ≤ 1000) (hk : k ≤ 3) (hr : 0 ≤ r ∧ r < at'.sum ^ k) (hn : 1 ≤ at'.sum) : Fn Try.prog 75 [scp at' st, litI k, litI r] (.pv (ints (digL at'.sum k r))) := by
  have ha := r5Atoms_fn at' st h
  have hrk := r5Ranks_fn at' st k h hs hk
  have hpb := pow_bound (n := at'.sum) ⟨by omega, hs⟩ k hk
  generalize at'.sum ^ k = top at *
  generalize at'.sum = n at *
  refine Fn.enter (n := 50) Try.func75 rfl rfl rfl rfl rfl (by decide) fun g hro_ hwt_ => ?_; (try refine nz ?_)
  (refine zq ?_; refine AOps.box rfl rfl rfl rfl ?_; refine nz ?_; refine za ?_; refine zd ?_; refine zo ?_; refine zq ?_; refine nz ?_; refine zm ?_; refine zs ?_; refine zm ?_; refine zl ?_; refine zm ?_; refine zl ?_; refine AOps.gtr rfl rfl rfl rfl rfl ?_; refine AOps.pick_lf rfl rfl rfl rfl rfl rfl ?_; refine zm ?_; refine zy ?_; refine zm ?_; refine zy ?_; refine zs ?_; refine AOps.pickF_pv rfl rfl (by first | omega | decide) rfl rfl rfl rfl ?_; refine zm ?_; refine zy ?_; refine zm ?_; refine zy ?_; refine AOps.load_ball rfl rfl rfl rfl rfl ?_; refine nz ?_; refine zy ?_; refine zm ?_; refine zy ?_; (with_reducible apply AOps.call (hrk)); (repeat (first | exact .nil | (refine .cons rfl ?_ ?_; (first | exact .pv _ | exact .own _ _ _ _ rfl | exact .nil _ | exact .any _ | exact .rptr _ | (refine .aggL ?_; repeat (first | exact .nil | (refine .cons ?_ ?_; (first | exact .pv _ | exact .own _ _ _ _ rfl | exact .nil _)))))))); exact rfl; exact rfl; exact (fun h_ => by cases h_); refine zy ?_; refine AOps.geq rfl rfl rfl rfl rfl ?_; refine AOps.pickF_pv rfl rfl (by first | omega | decide) rfl rfl rfl rfl ?_; refine zd ?_; refine zk ?_; refine AW.skip ?_; refine thenD_n ?_; refine zq ?_; refine nz ?_; refine AOps.makeSlice1 rfl rfl rfl rfl rfl rfl rfl rfl rfl rfl (by omega) ?_; refine nz ?_; refine AOps.assign_own rfl rfl rfl ?_; refine zd ?_; refine zq ?_; refine nz ?_; refine AOps.load_ball rfl rfl rfl rfl rfl ?_; refine nz ?_; (with_reducible apply AOps.call (ha)); (repeat (first | exact .nil | (refine .cons rfl ?_ ?_; (first | exact .pv _ | exact .own _ _ _ _ rfl | exact .nil _ | exact .any _ | exact .rptr _ | (refine .aggL ?_; repeat (first | exact .nil | (refine .cons ?_ ?_; (first | exact .pv _ | exact .own _ _ _ _ rfl | exact .nil _)))))))); exact rfl; exact rfl; exact (fun h_ => by cases h_); refine za ?_; refine zd ?_; refine zq ?_; refine nz ?_; refine zm ?_; refine za ?_; refine zd ?_; refine zo ?_; refine zq ?_; refine nz ?_; refine zm ?_; refine AOps.sub rfl rfl rfl rfl rfl (by omega) ?_; refine za ?_; refine zd ?_; refine AW.block ?_)
  (refine nz ?_; apply AW.loopR [8, 6, 1] [1] (fun s : Nat × Int × List Int => ([(7, .own 1 3 1 ((List.replicate s.1 0 ++ s.2.2 ++ List.replicate (3 - k) 0).map encI)), (9, litI s.2.1), (10, litI ((s.1 : Int) - 1))] : List (Nat × AV))) (fun s : Nat × Int × List Int => ([] : List (Nat × Option Ob))) (fun s : Nat × Int × List Int => s.1 ≤ k ∧ s.2.2.length = k - s.1 ∧ 0 ≤ s.2.1 ∧ s.2.1 ≤ 9223372036854775807 ∧ digL n k r = digL n s.1 s.2.1 ++ s.2.2) (fun s : Nat × Int × List Int => s.1) ((k, r, [])); (conv => lhs; simp only [Nf.lpR, Nf.all, Nat.reduceBEq, reduceAdd, reduceSub]); (all_goals skip))
  · exact ⟨Nat.le_refl _, by simp, hr.1, by show r ≤ _; omega, by simp⟩
  · exact weak rfl (by (refine ⟨.ownE (by first | with_reducible rfl | (first | rfl | (show List.replicate 3 _ = List.map encI _; rw [List.append_nil, List.replicate_append_replicate, List.map_replicate, show k + (3 - k) = 3 by omega]; rfl))) rfl, ?_⟩; refine ⟨.intE (by first | with_reducible rfl | (first | rfl | (show List.replicate 3 _ = List.map encI _; rw [List.append_nil, List.replicate_append_replicate, List.map_replicate, show k + (3 - k) = 3 by omega]; rfl))), ?_⟩; refine ⟨.intE (by first | with_reducible rfl | (first | rfl | (show List.replicate 3 _ = List.map encI _; rw [List.append_nil, List.replicate_append_replicate, List.map_replicate, show k + (3 - k) = 3 by omega]; rfl))), ?_⟩; refine ⟨.intE (by first | with_reducible rfl | (first | rfl | (show List.replicate 3 _ = List.map encI _; rw [List.append_nil, List.replicate_append_replicate, List.map_replicate, show k + (3 - k) = 3 by omega]; rfl))), ?_⟩; refine ⟨.eq rfl rfl, ?_⟩; refine ⟨.intE (by first | with_reducible rfl | (first | rfl | (show List.replicate 3 _ = List.map encI _; rw [List.append_nil, List.replicate_append_replicate, List.map_replicate, show k + (3 - k) = 3 by omega]; rfl))), ?_⟩; exact trivial)) (by (refine ⟨.row rfl, ?_⟩; exact trivial)) rfl
  rintro ⟨j, r', D⟩ ⟨h1, h2, h3, h4, h5⟩
  simp only at h1 h2 h3 h4 h5 ⊢
  cases j with
  | zero =>
    have e1 : digL n k r = D := h5
    rw [e1]
    (refine zo ?_; refine zq ?_; refine zm ?_; refine AOps.geq rfl rfl rfl rfl rfl ?_; refine zd ?_; refine AW.cond_lf rfl rfl ?_; refine AW.exit ?_; (iterate 2 refine thenD_exit ?_); refine inBlockD_exit ?_; refine thenD_n ?_; refine zq ?_; refine nz ?_; refine AOps.move_own rfl rfl rfl ?_; refine zm ?_; (with_reducible apply AOps.slice_own); (iterate 7 exact rfl); omega; (first | omega | (simp only [List.length_map, List.length_append, List.length_cons, List.length_nil, List.length_drop, List.length_take, List.length_set, chunk_len]; omega)); refine AOps.assign_own rfl rfl rfl ?_; refine zd ?_; refine AW.ret ?_)
    (apply ends_ret; (exact Res.one (.tmp rfl rfl)); (refine Le.ownE ?_; (first | rfl | (show List.take _ (List.map encI _) = _; rw [← List.map_take, Int.toNat_natCast, List.replicate_zero, List.nil_append, List.take_append_of_le_length (by omega), List.take_of_length_le (by omega)]))))
  | succ j =>
    have ek : ((j + 1 : Nat) : Int) - 1 = (j : Int) := by omega
    rw [ek]
    have hd1 := Int.ediv_nonneg h3 (by omega : 0 ≤ n)
    have hd2 := Int.ediv_le_self n h3
    have hlen : (List.replicate (j + 1) (0 : Int) ++ D ++ List.replicate (3 - k) 0).length = 3 := by simp; omega
    have hsz := set_zeros (j := j) (D := D) (E := List.replicate (3 - k) 0) (x := r' % n)
    (refine zo ?_; refine zq ?_; refine zm ?_; refine AOps.geq rfl rfl rfl rfl rfl ?_; refine zd ?_; refine AW.cond_lt rfl rfl ?_; refine AW.skip ?_; refine thenD_n ?_; refine zo ?_; refine AW.block ?_; refine zq ?_; refine nz ?_; refine AOps.move_own rfl rfl rfl ?_; (iterate 3 refine zm ?_); refine AOps.remE rfl rfl rfl rfl rfl (by omega) ?_; refine AOps.index_own_mapN rfl rfl rfl rfl rfl rfl rfl (by omega) ?_; refine AOps.store_o1 rfl rfl rfl rfl rfl rfl rfl rfl ?_; refine zd ?_; refine AW.region ?_; refine nz ?_; (iterate 2 refine zm ?_); refine AOps.quoE rfl rfl rfl rfl rfl (by omega) ?_; refine za ?_; refine AOps.nil ?_; refine inBlockD_n ?_; refine thenD_n ?_; refine AW.region ?_; refine nz ?_; refine zm ?_; refine AOps.sub rfl rfl rfl rfl rfl (by omega) ?_; refine za ?_; refine zd ?_)
    exact ⟨(j, r' / n, r' % n :: D), ⟨by show j ≤ k; omega, by show (r' % n :: D).length = k - j; rw [List.length_cons]; omega, hd1, by show r' / n ≤ _; omega, by show _ = digL n j (r' / n) ++ (r' % n :: D); rw [h5]; show (digL n j (r' / n) ++ [r' % n]) ++ D = _; simp⟩, by show j < j + 1; omega, weak rfl (by (refine ⟨.ownE (by first | with_reducible rfl | (first | rfl | (rw [← hsz, List.map_set]; rfl))) rfl, ?_⟩; refine ⟨.intE (by first | with_reducible rfl | (first | rfl | (rw [← hsz, List.map_set]; rfl))), ?_⟩; refine ⟨.intE (by first | with_reducible rfl | (first | rfl | (rw [← hsz, List.map_set]; rfl))), ?_⟩; refine ⟨.intE (by first | with_reducible rfl | (first | rfl | (rw [← hsz, List.map_set]; rfl))), ?_⟩; refine ⟨.eq rfl rfl, ?_⟩; refine ⟨.intE (by first | with_reducible rfl | (first | rfl | (rw [← hsz, List.map_set]; rfl))), ?_⟩; exact trivial)) (by (refine ⟨.row rfl, ?_⟩; exact trivial)) rfl⟩
end Go.Ab
/- Chapter 05's reference: a tuple's atoms against sorts. -/
namespace Go.Ab
open Go Go.Proofs
open Nat (reduceAdd reduceSub)
set_option maxRecDepth 20000
set_option maxHeartbeats 4000000
def fitsB (at' : List Int) : List Int → List Int → Bool
  | s :: ss, t :: ts => decide (sortF at' t 0 = s) && fitsB at' ss ts
  | _, _ => true
theorem fitsB_drop {at' ss ts : List Int} {i : Nat} (h1 : i < ss.length) (h2 : i < ts.length) : fitsB at' (ss.drop i) (ts.drop i) = (decide (sortF at' ts[i] 0 = ss[i]) && fitsB at' (ss.drop (i + 1)) (ts.drop (i + 1))) := by
  rw [List.drop_eq_getElem_cons h1, List.drop_eq_getElem_cons h2]; rfl
attribute [local irreducible] AW AOps thenD inBlockD AR iterEnds roundEndsN inlEnds noGotoD
theorem r5fits_fn (at' : List Int) (st : Int) (ts ss : List Int) (h : SmA at') (hl : ts.length = ss.length) (hs : ss.length ≤ 1000) (hp : ∀ t ∈ ts, 0 ≤ t) : Fn Try.prog 76 [scp at' st, .pv (ints ts), .pv (ints ss)] (litB (fitsB at' ss ts)) := by
  refine Fn.enter (n := 25) Try.func76 rfl rfl rfl rfl rfl (by decide) fun g hro_ hwt_ => ?_; (try refine nz ?_)
  (refine zq ?_; refine AOps.box rfl rfl rfl rfl ?_; refine nz ?_; refine za ?_; refine zd ?_; refine zo ?_; refine zq ?_; refine nz ?_; refine za ?_; refine zd ?_; refine AW.block ?_)
  (refine nz ?_; apply AW.loopR [3, 1, 2] [0] (fun i : Nat => ([(7, litI i)] : List (Nat × AV))) (fun i : Nat => ([] : List (Nat × Option Ob))) (fun i : Nat => i ≤ ss.length ∧ fitsB at' ss ts = fitsB at' (ss.drop i) (ts.drop i)) (fun i : Nat => ss.length - i) (0); (conv => lhs; simp only [Nf.lpR, Nf.all, Nat.reduceBEq, reduceAdd, reduceSub]); (all_goals skip))
  · exact ⟨Nat.zero_le _, rfl⟩
  · exact weak rfl (by (refine ⟨.eq rfl rfl, ?_⟩; (iterate 3 refine ⟨.eq rfl rfl, ?_⟩); exact trivial)) (by (refine ⟨.box _ rfl ?_, ?_⟩; (iterate 2 refine ⟨.eq rfl rfl, ?_⟩); (iterate 2 exact trivial))) rfl
  rintro i ⟨hi, he⟩
  by_cases hlt : i < ss.length
  · have hlt2 : i < ts.length := by omega
    rw [fitsB_drop hlt hlt2] at he
    have hso := r5SortOf_fn at' st ts[i] h (hp _ (List.getElem_mem hlt2))
    by_cases hq : sortF at' ts[i] 0 = ss[i]
    · rw [decide_eq_true hq, Bool.true_and] at he
      (refine zo ?_; refine zq ?_; (iterate 2 refine zm ?_); refine zn ?_; refine zs ?_; refine zd ?_; refine zc ?_; refine AW.skip ?_; refine thenD_n ?_; refine zo ?_; refine AW.block ?_; refine zo ?_; (with_reducible apply AW.regionQ); exact rfl; exact rfl; kernel_rfl; (with_reducible assumption); refine AOps.load_ball rfl rfl rfl rfl rfl ?_; refine nz ?_; (iterate 2 refine zm ?_); (focus ((with_reducible apply AOps.index_map); (iterate 7 exact rfl); rotate_left; omega)); refine zr ?_; (with_reducible apply AOps.call (hso)); (repeat (first | exact .nil | (refine .cons rfl ?_ ?_; (first | exact .pv _ | exact .own _ _ _ _ rfl | exact .nil _ | exact .any _ | exact .rptr _ | (refine .aggL ?_; repeat (first | exact .nil | (refine .cons ?_ ?_; (first | exact .pv _ | exact .own _ _ _ _ rfl | exact .nil _)))))))); exact rfl; exact rfl; exact (fun h_ => by cases h_); (iterate 2 refine zm ?_); (focus ((with_reducible apply AOps.index_map); (iterate 7 exact rfl); rotate_left; omega)); refine zr ?_; refine AOps.neq rfl rfl rfl rfl rfl ?_; refine zd ?_; refine zk ?_; refine AW.skip ?_; refine inBlockD_n ?_; refine thenD_n ?_; refine AW.region ?_; refine nz ?_; refine zm ?_; refine AOps.add rfl rfl rfl rfl rfl (by omega) ?_; refine za ?_; refine zd ?_)
      exact ⟨i + 1, ⟨by omega, he⟩, by omega, weak rfl (by (refine ⟨.eq rfl rfl, ?_⟩; (iterate 3 refine ⟨.eq rfl rfl, ?_⟩); exact trivial)) (by (refine ⟨.box _ rfl ?_, ?_⟩; (iterate 2 refine ⟨.eq rfl rfl, ?_⟩); (iterate 2 exact trivial))) rfl⟩
    · rw [decide_eq_false hq, Bool.false_and] at he
      (refine zo ?_; refine zq ?_; (iterate 2 refine zm ?_); refine zn ?_; refine zs ?_; refine zd ?_; refine zc ?_; refine AW.skip ?_; refine thenD_n ?_; refine zo ?_; refine AW.block ?_; refine zo ?_; (with_reducible apply AW.regionQ); exact rfl; exact rfl; kernel_rfl; (with_reducible assumption); refine AOps.load_ball rfl rfl rfl rfl rfl ?_; refine nz ?_; (iterate 2 refine zm ?_); (focus ((with_reducible apply AOps.index_map); (iterate 7 exact rfl); rotate_left; omega)); refine zr ?_; (with_reducible apply AOps.call (hso)); (repeat (first | exact .nil | (refine .cons rfl ?_ ?_; (first | exact .pv _ | exact .own _ _ _ _ rfl | exact .nil _ | exact .any _ | exact .rptr _ | (refine .aggL ?_; repeat (first | exact .nil | (refine .cons ?_ ?_; (first | exact .pv _ | exact .own _ _ _ _ rfl | exact .nil _)))))))); exact rfl; exact rfl; exact (fun h_ => by cases h_); (iterate 2 refine zm ?_); (focus ((with_reducible apply AOps.index_map); (iterate 7 exact rfl); rotate_left; omega)); refine zr ?_; refine AOps.neq rfl rfl rfl rfl rfl ?_; refine zd ?_; refine AW.condY rfl rfl (by with_reducible assumption) ?_; refine zq ?_; refine nz ?_; refine za ?_; refine zd ?_; refine AW.ret ?_; refine inBlockD_ret ?_; (iterate 2 refine thenD_ret ?_); refine inBlockD_ret ?_; refine thenD_ret ?_)
      (apply ends_ret; (exact Res.one (.tmp rfl rfl)); (refine Le.litB ?_; (exact he.symm)))
  · rw [List.drop_eq_nil_of_le (by omega)] at he
    have he : fitsB at' ss ts = true := by rw [he]; unfold fitsB; rfl
    (refine zo ?_; refine zq ?_; (iterate 2 refine zm ?_); refine zn ?_; refine zs ?_; refine zd ?_; refine zk ?_; refine AW.exit ?_; (iterate 2 refine thenD_exit ?_); refine inBlockD_exit ?_; refine thenD_n ?_; refine zq ?_; refine nz ?_; refine za ?_; refine zd ?_; refine AW.ret ?_)
    (apply ends_ret; (exact Res.one (.tmp rfl rfl)); (refine Le.litB ?_; (exact he.symm)))
end Go.Ab
/- Chapter 05's reference: all tuples whose atoms have the columns' sorts. -/
namespace Go.Ab
open Go Go.Proofs
open Nat (reduceAdd reduceSub)
set_option maxRecDepth 20000
set_option maxHeartbeats 4000000
theorem digL_nn {n : Int} (hn : 1 ≤ n) : ∀ (k : Nat) {r : Int}, 0 ≤ r → ∀ t ∈ digL n k r, 0 ≤ t
  | 0, _, _, t, h => by simp [digL] at h
  | k + 1, r, hr, t, h => by
    simp only [digL, List.mem_append, List.mem_singleton] at h
    rcases h with h | rfl
    · exact digL_nn hn k (Int.ediv_nonneg hr (by omega)) t h
    · exact Int.emod_nonneg r (by omega)
/-- the numbers below m that have the property. -/
def numsB (p : Int → Bool) (m : Nat) : List Int := ((List.range m).map fun (i : Nat) => (i : Int)).filter p
theorem numsB_succ (p : Int → Bool) (m : Nat) : numsB p (m + 1) = numsB p m ++ if p m = true then [(m : Int)] else [] := by
  unfold numsB
  rw [List.range_succ, List.map_append, List.filter_append]
  by_cases h : p m = true
  · simp [h]
  · simp [h]
theorem numsB_len (p : Int → Bool) (m : Nat) : (numsB p m).length ≤ m := by
  unfold numsB
  exact Nat.le_trans (List.length_filter_le _ _) (by simp)
attribute [local irreducible] AW AOps thenD inBlockD AR iterEnds roundEndsN inlEnds noGotoD numsB digL fitsB
theorem r5Full_fn (at' : List Int) (st : Int) (l : List Int) (hc : colsB at'.length l = true) (h : SmA at') (hs : at'.sum ≤ 1000) (hn : 1 ≤ at'.sum) :
    Fn Try.prog 49 [scp at' st, .pv (ints l)] (relA (l.length, numsB (fun r => fitsB at' l (digL at'.sum l.length r)) (at'.sum ^ l.length).toNat)) := by
  unfold colsB at hc
  rw [Bool.and_eq_true, decide_eq_true_eq] at hc
  obtain ⟨hc1, hc2⟩ := hc
  have hin := insB_at hc2
  have hle := h.1
  have hrk := r5Ranks_fn at' st l.length h hs (by omega)
  have hpb := pow_bound (n := at'.sum) ⟨by omega, hs⟩ l.length (by omega)
  have htu := fun r hr => r5Tuple_fn at' st l.length r h hs (by omega) hr hn
  have hfi := fun r hr => r5fits_fn at' st (digL at'.sum l.length r) l h (digL_len _ _ _) (by omega) (digL_nn hn l.length (r := r) hr)
  generalize hp : (fun r => fitsB at' l (digL at'.sum l.length r)) = p
  have hpe : ∀ r, fitsB at' l (digL at'.sum l.length r) = p r := fun r => by rw [← hp]
  obtain ⟨m, hm⟩ : ∃ m : Nat, at'.sum ^ l.length = (m : Int) := ⟨(at'.sum ^ l.length).toNat, by omega⟩
  rw [hm] at hrk hpb htu ⊢
  rw [Int.toNat_natCast]
  refine Fn.enter (n := 64) Try.func49 rfl rfl rfl rfl rfl (by decide) fun g hro_ hwt_ => ?_; (try refine nz ?_)
  (refine zq ?_; refine AOps.box rfl rfl rfl rfl ?_; refine nz ?_; refine AOps.allocN' rfl rfl rfl rfl ?_; refine nz ?_; refine zd ?_; refine zq ?_; refine zm ?_; refine zn ?_; refine za ?_; refine zd ?_; refine zo ?_; refine zq ?_; refine nz ?_; refine zm ?_; refine zs ?_; refine zm ?_; refine zy ?_; refine zm ?_; refine zy ?_; refine AOps.gtr rfl rfl rfl rfl rfl ?_; refine AOps.pickF_pv rfl rfl (by first | omega | decide) rfl rfl rfl rfl ?_; refine zd ?_; refine zk ?_; refine AW.skip ?_; refine thenD_n ?_; refine zo ?_; refine zq ?_; refine nz ?_; refine za ?_; refine zd ?_; refine AW.block ?_)
  (refine nz ?_; apply AW.loopR [5, 4, 2, 1] [1, 0] (fun i : Nat => ([(6, litI i)] : List (Nat × AV))) (fun i : Nat => ([] : List (Nat × Option Ob))) (fun i : Nat => i ≤ l.length) (fun i : Nat => l.length - i) (0); (conv => lhs; simp only [Nf.lpR, Nf.all, Nat.reduceBEq, reduceAdd, reduceSub]); (all_goals skip))
  · exact Nat.zero_le _
  · exact weak rfl (by (refine ⟨.eq rfl rfl, ?_⟩; (iterate 4 refine ⟨.eq rfl rfl, ?_⟩); exact trivial)) (by (refine ⟨.box _ rfl ?_, ?_⟩; (iterate 2 refine ⟨.eq rfl rfl, ?_⟩); exact trivial; refine ⟨.box _ rfl ?_, ?_⟩; (iterate 2 refine ⟨.eq rfl rfl, ?_⟩); (iterate 2 exact trivial))) rfl
  rintro i hi
  by_cases hlt : i < l.length
  · have hb := hin _ (List.getElem_mem hlt)
    (refine zo ?_; refine zq ?_; (iterate 2 refine zm ?_); refine zs ?_; refine zd ?_; refine zc ?_; refine AW.skip ?_; refine thenD_n ?_; refine zo ?_; refine AW.block ?_; refine zo ?_; (with_reducible apply AW.regionQ); exact rfl; exact rfl; kernel_rfl; (with_reducible assumption); (iterate 2 refine zm ?_); (focus ((with_reducible apply AOps.index_map); (iterate 7 exact rfl); rotate_left; omega)); refine zr ?_; refine zs ?_; refine zm ?_; refine zy ?_; refine zm ?_; refine zy ?_; refine zm ?_; refine zy ?_; (focus ((with_reducible apply AOps.index_map); (iterate 7 exact rfl); rotate_left; omega)); refine zy ?_; refine zr ?_; refine zy ?_; refine AOps.fieldAddrN 49 0 0 rfl rfl rfl rfl ?_; refine zy ?_; refine zb ?_; refine zy ?_; refine zn ?_; refine zy ?_; refine AOps.geq rfl rfl rfl rfl rfl ?_; refine AOps.pickF_pv rfl rfl (by first | omega | decide) rfl rfl rfl rfl ?_; refine zd ?_; refine zk ?_; refine AW.skip ?_; refine inBlockD_n ?_; refine thenD_n ?_; refine AW.region ?_; refine nz ?_; refine zm ?_; refine AOps.add rfl rfl rfl rfl rfl (by omega) ?_; refine za ?_; refine zd ?_)
    exact ⟨i + 1, by omega, by omega, weak rfl (by (refine ⟨.eq rfl rfl, ?_⟩; (iterate 4 refine ⟨.eq rfl rfl, ?_⟩); exact trivial)) (by (refine ⟨.box _ rfl ?_, ?_⟩; (iterate 2 refine ⟨.eq rfl rfl, ?_⟩); exact trivial; refine ⟨.box _ rfl ?_, ?_⟩; (iterate 2 refine ⟨.eq rfl rfl, ?_⟩); (iterate 2 exact trivial))) rfl⟩
  obtain rfl : i = l.length := by omega
  (refine zo ?_; refine zq ?_; (iterate 2 refine zm ?_); refine zs ?_; refine zd ?_; refine zk ?_; refine AW.exit ?_; (iterate 2 refine thenD_exit ?_); refine inBlockD_exit ?_; refine thenD_n ?_; refine zq ?_; refine nz ?_; refine zm ?_; refine AOps.buildN 99 [0] rfl rfl rfl rfl rfl rfl rfl rfl rfl ?_; refine nz ?_; refine AOps.allocN' rfl rfl rfl rfl ?_; refine nz ?_; refine AOps.store_bn rfl rfl rfl rfl rfl rfl rfl rfl rfl (by with_reducible assumption) ?_; refine nz ?_; refine zd ?_; refine zo ?_; refine zq ?_; refine za ?_; refine zd ?_; refine AW.block ?_)
  (refine nz ?_; apply AW.loopR [7, 5, 4, 2, 1] [1, 0] (fun r : Nat => ([(8, litI r)] : List (Nat × AV))) (fun r : Nat => ([(2, some (.box [litI l.length, .own 3 3 1 ((numsB p r).map encI)])), (3, some .row)] : List (Nat × Option Ob))) (fun r : Nat => r ≤ m) (fun r : Nat => m - r) (0); (conv => lhs; simp only [Nf.lpR, Nf.all, Nat.reduceBEq, reduceAdd, reduceSub]); (all_goals skip))
  · exact Nat.zero_le _
  · exact weak rfl (by (refine ⟨.intE (by first | with_reducible rfl | (first | rfl | (unfold numsB; rfl))), ?_⟩; refine ⟨.eq rfl rfl, ?_⟩; refine ⟨.intE (by first | with_reducible rfl | (first | rfl | (unfold numsB; rfl))), ?_⟩; (iterate 2 refine ⟨.eq rfl rfl, ?_⟩); refine ⟨.pvE (by first | with_reducible rfl | (first | rfl | (unfold numsB; rfl))), ?_⟩; exact trivial)) (by (refine ⟨.box _ rfl ?_, ?_⟩; refine ⟨.intE (by first | with_reducible rfl | (first | rfl | (unfold numsB; rfl))), ?_⟩; refine ⟨.nilownE (by first | rfl | (unfold numsB; rfl)) rfl rfl, ?_⟩; exact trivial; refine ⟨.newrow rfl, ?_⟩; refine ⟨.box _ rfl ?_, ?_⟩; refine ⟨.intE (by first | with_reducible rfl | (first | rfl | (unfold numsB; rfl))), ?_⟩; refine ⟨.eq rfl rfl, ?_⟩; exact trivial; refine ⟨.box _ rfl ?_, ?_⟩; refine ⟨.pvE (by first | with_reducible rfl | (first | rfl | (unfold numsB; rfl))), ?_⟩; refine ⟨.intE (by first | with_reducible rfl | (first | rfl | (unfold numsB; rfl))), ?_⟩; (iterate 2 exact trivial))) rfl
  rintro r hr
  by_cases hlt2 : r < m
  · have hln := numsB_len p r
    have hsu := numsB_succ p r
    have ht := htu r ⟨by omega, by omega⟩
    have hf := hfi r (by omega)
    rw [hpe] at hf
    cases hb : p r with
    | true =>
      rw [hb] at hf
      rw [if_pos hb] at hsu
      (refine zo ?_; refine zq ?_; refine zm ?_; refine AOps.load_ball rfl rfl rfl rfl rfl ?_; refine nz ?_; refine zm ?_; (with_reducible apply AOps.call (hrk)); (repeat (first | exact .nil | (refine .cons rfl ?_ ?_; (first | exact .pv _ | exact .own _ _ _ _ rfl | exact .nil _ | exact .any _ | exact .rptr _ | (refine .aggL ?_; repeat (first | exact .nil | (refine .cons ?_ ?_; (first | exact .pv _ | exact .own _ _ _ _ rfl | exact .nil _)))))))); exact rfl; exact rfl; exact (fun h_ => by cases h_); refine zs ?_; refine zd ?_; refine zc ?_; refine AW.skip ?_; refine thenD_n ?_; refine zo ?_; refine AW.block ?_; refine zq ?_; refine nz ?_; refine AOps.load_ball rfl rfl rfl rfl rfl ?_; refine nz ?_; (iterate 2 refine zm ?_); (with_reducible apply AOps.callp (ht)); (repeat (first | exact .nil | (refine .cons rfl ?_ ?_; (first | exact .pv _ | exact .own _ _ _ _ rfl | exact .nil _ | exact .any _ | exact .rptr _ | (refine .aggL ?_; repeat (first | exact .nil | (refine .cons ?_ ?_; (first | exact .pv _ | exact .own _ _ _ _ rfl | exact .nil _)))))))); exact rfl; refine za ?_; refine zd ?_; refine zq ?_; refine nz ?_; refine AOps.load_ball rfl rfl rfl rfl rfl ?_; refine nz ?_; (iterate 2 refine zm ?_); (with_reducible apply AOps.call (hf)); (repeat (first | exact .nil | (refine .cons rfl ?_ ?_; (first | exact .pv _ | exact .own _ _ _ _ rfl | exact .nil _ | exact .any _ | exact .rptr _ | (refine .aggL ?_; repeat (first | exact .nil | (refine .cons ?_ ?_; (first | exact .pv _ | exact .own _ _ _ _ rfl | exact .nil _)))))))); exact rfl; exact rfl; exact (fun h_ => by cases h_); refine zd ?_; refine AW.cond_lt rfl rfl ?_; refine AW.region ?_; refine nz ?_; refine AOps.fieldAddrN 99 1 1 rfl rfl rfl rfl ?_; refine zb ?_; refine zm ?_; refine AOps.bs1 rfl rfl rfl rfl rfl rfl rfl rfl ?_; refine nz ?_; (with_reducible apply AOps.appendS); exact rfl; (first | exact .pv rfl | exact .own rfl | exact .nil rfl); (iterate 9 exact rfl); (first | omega | (simp only [List.length_map, List.length_append, List.length_cons, List.length_nil, List.length_drop, List.length_take, List.length_set, chunk_len]; omega)); refine nz ?_; refine AOps.fieldAddrN 99 1 1 rfl rfl rfl rfl ?_; refine AOps.store_b1 rfl rfl rfl rfl rfl rfl rfl rfl rfl (by with_reducible assumption) ?_; refine nz ?_; refine AOps.nil ?_; refine inBlockD_n ?_; refine thenD_n ?_; refine AW.region ?_; refine zm ?_; refine AOps.add rfl rfl rfl rfl rfl (by omega) ?_; refine za ?_; refine zd ?_)
      exact ⟨r + 1, by omega, by omega, weak rfl (by (refine ⟨.intE (by first | with_reducible rfl | (first | rfl | (rw [hsu, List.map_append]; rfl))), ?_⟩; refine ⟨.eq rfl rfl, ?_⟩; refine ⟨.intE (by first | with_reducible rfl | (first | rfl | (rw [hsu, List.map_append]; rfl))), ?_⟩; (iterate 2 refine ⟨.eq rfl rfl, ?_⟩); refine ⟨.pvE (by first | with_reducible rfl | (first | rfl | (rw [hsu, List.map_append]; rfl))), ?_⟩; exact trivial)) (by (refine ⟨.box _ rfl ?_, ?_⟩; refine ⟨.intE (by first | with_reducible rfl | (first | rfl | (rw [hsu, List.map_append]; rfl))), ?_⟩; refine ⟨.ownE (by first | with_reducible rfl | (first | rfl | (rw [hsu, List.map_append]; rfl))) rfl, ?_⟩; exact trivial; refine ⟨.row rfl, ?_⟩; refine ⟨.box _ rfl ?_, ?_⟩; refine ⟨.intE (by first | with_reducible rfl | (first | rfl | (rw [hsu, List.map_append]; rfl))), ?_⟩; refine ⟨.eq rfl rfl, ?_⟩; exact trivial; refine ⟨.box _ rfl ?_, ?_⟩; refine ⟨.pvE (by first | with_reducible rfl | (first | rfl | (rw [hsu, List.map_append]; rfl))), ?_⟩; refine ⟨.intE (by first | with_reducible rfl | (first | rfl | (rw [hsu, List.map_append]; rfl))), ?_⟩; (iterate 2 exact trivial))) rfl⟩
    | false =>
      rw [hb] at hf
      rw [if_neg (by rw [hb]; simp), List.append_nil] at hsu
      (refine zo ?_; refine zq ?_; refine zm ?_; refine AOps.load_ball rfl rfl rfl rfl rfl ?_; refine nz ?_; refine zm ?_; (with_reducible apply AOps.call (hrk)); (repeat (first | exact .nil | (refine .cons rfl ?_ ?_; (first | exact .pv _ | exact .own _ _ _ _ rfl | exact .nil _ | exact .any _ | exact .rptr _ | (refine .aggL ?_; repeat (first | exact .nil | (refine .cons ?_ ?_; (first | exact .pv _ | exact .own _ _ _ _ rfl | exact .nil _)))))))); exact rfl; exact rfl; exact (fun h_ => by cases h_); refine zs ?_; refine zd ?_; refine zc ?_; refine AW.skip ?_; refine thenD_n ?_; refine zo ?_; refine AW.block ?_; refine zq ?_; refine nz ?_; refine AOps.load_ball rfl rfl rfl rfl rfl ?_; refine nz ?_; (iterate 2 refine zm ?_); (with_reducible apply AOps.callp (ht)); (repeat (first | exact .nil | (refine .cons rfl ?_ ?_; (first | exact .pv _ | exact .own _ _ _ _ rfl | exact .nil _ | exact .any _ | exact .rptr _ | (refine .aggL ?_; repeat (first | exact .nil | (refine .cons ?_ ?_; (first | exact .pv _ | exact .own _ _ _ _ rfl | exact .nil _)))))))); exact rfl; refine za ?_; refine zd ?_; refine zq ?_; refine nz ?_; refine AOps.load_ball rfl rfl rfl rfl rfl ?_; refine nz ?_; (iterate 2 refine zm ?_); (with_reducible apply AOps.call (hf)); (repeat (first | exact .nil | (refine .cons rfl ?_ ?_; (first | exact .pv _ | exact .own _ _ _ _ rfl | exact .nil _ | exact .any _ | exact .rptr _ | (refine .aggL ?_; repeat (first | exact .nil | (refine .cons ?_ ?_; (first | exact .pv _ | exact .own _ _ _ _ rfl | exact .nil _)))))))); exact rfl; exact rfl; exact (fun h_ => by cases h_); refine zd ?_; refine AW.cond_lf rfl rfl ?_; refine AW.skip ?_; refine inBlockD_n ?_; refine thenD_n ?_; refine AW.region ?_; refine nz ?_; refine zm ?_; refine AOps.add rfl rfl rfl rfl rfl (by omega) ?_; refine za ?_; refine zd ?_)
      exact ⟨r + 1, by omega, by omega, weak rfl (by (refine ⟨.intE (by first | with_reducible rfl | (first | rfl | (rw [hsu]))), ?_⟩; refine ⟨.eq rfl rfl, ?_⟩; refine ⟨.intE (by first | with_reducible rfl | (first | rfl | (rw [hsu]))), ?_⟩; (iterate 2 refine ⟨.eq rfl rfl, ?_⟩); refine ⟨.pvE (by first | with_reducible rfl | (first | rfl | (rw [hsu]))), ?_⟩; exact trivial)) (by (refine ⟨.box _ rfl ?_, ?_⟩; refine ⟨.intE (by first | with_reducible rfl | (first | rfl | (rw [hsu]))), ?_⟩; refine ⟨.ownE (by first | with_reducible rfl | (first | rfl | (rw [hsu]))) rfl, ?_⟩; exact trivial; refine ⟨.row rfl, ?_⟩; refine ⟨.box _ rfl ?_, ?_⟩; refine ⟨.intE (by first | with_reducible rfl | (first | rfl | (rw [hsu]))), ?_⟩; refine ⟨.eq rfl rfl, ?_⟩; exact trivial; refine ⟨.box _ rfl ?_, ?_⟩; refine ⟨.pvE (by first | with_reducible rfl | (first | rfl | (rw [hsu]))), ?_⟩; refine ⟨.intE (by first | with_reducible rfl | (first | rfl | (rw [hsu]))), ?_⟩; (iterate 2 exact trivial))) rfl⟩
  · obtain rfl : r = m := by omega
    (refine zo ?_; refine zq ?_; refine zm ?_; refine AOps.load_ball rfl rfl rfl rfl rfl ?_; refine nz ?_; refine zm ?_; (with_reducible apply AOps.call (hrk)); (repeat (first | exact .nil | (refine .cons rfl ?_ ?_; (first | exact .pv _ | exact .own _ _ _ _ rfl | exact .nil _ | exact .any _ | exact .rptr _ | (refine .aggL ?_; repeat (first | exact .nil | (refine .cons ?_ ?_; (first | exact .pv _ | exact .own _ _ _ _ rfl | exact .nil _)))))))); exact rfl; exact rfl; exact (fun h_ => by cases h_); refine zs ?_; refine zd ?_; refine zk ?_; refine AW.exit ?_; (iterate 2 refine thenD_exit ?_); refine inBlockD_exit ?_; refine thenD_n ?_; refine zq ?_; refine nz ?_; refine AOps.load_ball rfl rfl rfl rfl rfl ?_; refine nz ?_; refine AOps.store_bn rfl rfl rfl rfl rfl rfl rfl rfl rfl (by with_reducible assumption) ?_; refine nz ?_; refine zd ?_; refine AW.ret ?_)
    (apply ends_ret; (exact Res.one (.cell rfl rfl rfl rfl)); (refine Le.aggL ?_; refine LeL.cons ?_ ?_; (with_reducible exact Le.pv _); refine LeL.cons ?_ ?_; exact Le.own _ _ _ _ rfl; exact LeL.nil))
end Go.Ab
/- Chapter 05's reference: scopes that fit. -/
namespace Go.Ab
open Go Go.Proofs
open Nat (reduceAdd reduceSub)
set_option maxRecDepth 20000
set_option maxHeartbeats 4000000
attribute [local irreducible] AW AOps thenD inBlockD AR iterEnds roundEndsN inlEnds noGotoD
end Go.Ab
/- Chapter 05: the reference's full relation is the program's. -/
namespace Go.Ab
open Go Go.Proofs
set_option maxRecDepth 20000
set_option maxHeartbeats 4000000
theorem rks_bound {n : Int} (hn : 0 ≤ n) : ∀ (l : List (Int × Nat)), (∀ c ∈ l, 0 ≤ c.1 ∧ c.1 + c.2 ≤ n) → ∀ (p : Int), 0 ≤ p → Inc (rks n p l) ∧ ∀ t ∈ rks n p l, p * n ^ l.length ≤ t ∧ t < (p + 1) * n ^ l.length
  | [], _, p, _ => by rw [rks_nil]; simp; omega
  | (f, z) :: l, h, p, hp => by
    have hc := h (f, z) (by simp)
    simp only at hc
    have ih := rks_bound hn l fun c hc => h c (by simp [hc])
    have hpn : 0 ≤ p * n := Int.mul_nonneg hp hn
    have hm : 0 ≤ n ^ l.length := Int.pow_nonneg hn
    have hq : ∀ i : Nat, 0 ≤ p * n + (f + (i : Int)) := fun i => by omega
    show Inc ((List.range z).flatMap fun i => rks n (p * n + (f + (i : Nat))) l) ∧ _
    constructor
    · show List.Pairwise _ _
      rw [List.pairwise_flatMap]
      refine ⟨fun i _ => (ih _ (hq i)).1, ?_⟩
      refine List.pairwise_lt_range.imp fun {i j} hij x hx y hy => ?_
      have h1 := ((ih _ (hq i)).2 x hx).2
      have h2 := ((ih _ (hq j)).2 y hy).1
      have h3 : (p * n + (f + (i : Int)) + 1) * n ^ l.length ≤ (p * n + (f + (j : Int))) * n ^ l.length := Int.mul_le_mul_of_nonneg_right (by omega) hm
      omega
    · intro t ht
      obtain ⟨i, hi, ht⟩ := List.mem_flatMap.1 ht
      rw [List.mem_range] at hi
      obtain ⟨h1, h2⟩ := (ih _ (hq i)).2 t ht
      have e : n ^ ((f, z) :: l).length = n * n ^ l.length := by rw [List.length_cons, Int.pow_succ, Int.mul_comm]
      rw [e, ← Int.mul_assoc, ← Int.mul_assoc]
      have h3 : (p * n) * n ^ l.length ≤ (p * n + (f + (i : Int))) * n ^ l.length := Int.mul_le_mul_of_nonneg_right (by omega) hm
      have h4 : (p * n + (f + (i : Int)) + 1) * n ^ l.length ≤ ((p + 1) * n) * n ^ l.length := Int.mul_le_mul_of_nonneg_right (by rw [Int.add_mul]; omega) hm
      omega
theorem colL_ok {at' : List Int} (hp : ∀ y ∈ at', 0 ≤ y) {l : List Int} (hs : ∀ s ∈ l, 0 ≤ s ∧ s < at'.length) : ∀ c ∈ colL at' l, 0 ≤ c.1 ∧ c.1 + c.2 ≤ at'.sum := by
  intro c hc
  unfold colL at hc
  obtain ⟨s, h1, rfl⟩ := List.mem_map.1 hc
  have h2 := hs s h1
  have h3 := take_le hp (k := s.toNat) (by omega)
  have h4 : 0 ≤ at'.getD s.toNat 0 := by rw [getD_at (by omega)]; exact hp _ (List.getElem_mem _)
  simp only
  omega
theorem full_inc {at' : List Int} (hp : ∀ y ∈ at', 0 ≤ y) {l : List Int} (hs : ∀ s ∈ l, 0 ≤ s ∧ s < at'.length) : Inc (fullR at' l).2 :=
  (rks_bound (sum_nn hp) _ (colL_ok hp hs) 0 (Int.le_refl _)).1
theorem fitsB_snoc {at' : List Int} : ∀ {l : List Int} {ts : List Int} {s t : Int}, l.length = ts.length → fitsB at' (l ++ [s]) (ts ++ [t]) = (decide (sortF at' t 0 = s) && fitsB at' l ts)
  | [], [], s, t, _ => by simp [fitsB]
  | a :: l, b :: ts, s, t, h => by
    show (_ && fitsB at' (l ++ [s]) (ts ++ [t])) = (_ && (_ && _))
    rw [fitsB_snoc (by simpa using h), ← Bool.and_assoc, ← Bool.and_assoc, Bool.and_comm (decide _) (decide _)]
theorem fits_cols (at' : List Int) (n : Int) : ∀ (m : Nat) (l : List Int), l.length = m → ∀ r, fitsB at' l (digL n m r) = colsF at' n l.reverse r
  | 0, l, h, r => by obtain rfl := List.eq_nil_of_length_eq_zero h; rfl
  | m + 1, l, h, r => by
    obtain ⟨l', s, rfl⟩ : ∃ l' s, l = l' ++ [s] := ⟨l.dropLast, l.getLast (by intro e; subst e; simp at h), (List.dropLast_concat_getLast _).symm⟩
    have hm' : l'.length = m := by simpa using h
    rw [List.reverse_append]
    show fitsB at' (l' ++ [s]) (digL n m (r / n) ++ [r % n]) = colsF at' n (s :: l'.reverse) r
    rw [fitsB_snoc (by rw [digL_len]; exact hm'), fits_cols at' n m l' hm' (r / n)]
    rfl
theorem numsB_inc (p : Int → Bool) (m : Nat) : Inc (numsB p m) := by
  unfold numsB
  refine List.Pairwise.filter _ ?_
  rw [List.pairwise_map]
  exact List.pairwise_lt_range.imp fun h => by omega
theorem numsB_mem {p : Int → Bool} {m : Nat} {t : Int} : t ∈ numsB p m ↔ 0 ≤ t ∧ t < m ∧ p t = true := by
  unfold numsB
  rw [List.mem_filter, List.mem_map]
  constructor
  · rintro ⟨⟨i, hi, rfl⟩, h⟩
    rw [List.mem_range] at hi
    exact ⟨by omega, by omega, h⟩
  · rintro ⟨h1, h2, h3⟩
    exact ⟨⟨t.toNat, List.mem_range.2 (by omega), by omega⟩, h3⟩
theorem r5_full_eq {at' : List Int} (hp : ∀ y ∈ at', 0 ≤ y) {l : List Int} (hs : ∀ s ∈ l, 0 ≤ s ∧ s < at'.length) : numsB (fun r => fitsB at' l (digL at'.sum l.length r)) (at'.sum ^ l.length).toNat = (fullR at' l).2 := by
  have h0 : 0 ≤ at'.sum ^ l.length := Int.pow_nonneg (sum_nn hp)
  refine inc_ext (numsB_inc _ _) (full_inc hp hs) fun t => ?_
  rw [numsB_mem]
  show _ ↔ t ∈ rks at'.sum 0 (colL at' l)
  rw [mem_full hp l hs, fits_cols _ _ _ _ rfl]
  constructor
  · rintro ⟨h1, h2, h3⟩; exact ⟨h1, h3, by omega⟩
  · rintro ⟨h1, h2, h3⟩; exact ⟨h1, by omega, h2⟩
theorem r5FullR_fn (at' : List Int) (st : Int) (l : List Int) (hc : colsB at'.length l = true) (h : SmA at') (hs : at'.sum ≤ 1000) (hn : 1 ≤ at'.sum) :
    Fn Try.prog 49 [scp at' st, .pv (ints l)] (relA (fullR at' l)) := by
  have h1 := r5Full_fn at' st l hc h hs hn
  unfold colsB at hc
  rw [Bool.and_eq_true] at hc
  rw [r5_full_eq (fun y hy => (h.2 y hy).1) (insB_at hc.2)] at h1
  exact h1
end Go.Ab
/- Chapter 09: bounds as data; the plain laws of meets, free tuples and contained models. -/
namespace Go.Ab
open Go Go.Proofs
set_option maxRecDepth 20000
set_option maxHeartbeats 4000000
abbrev BndM := RelM × RelM
abbrev encBn (b : BndM) : List PV := [.lit (.int .i64 b.1.1), ints b.1.2, .lit (.int .i64 b.2.1), ints b.2.2]
abbrev bnds (l : List BndM) : PV := .slice 4 (l.map encBn)
def wB (x : BndM) (r : RelM) : Bool := decide (x.1.1 = r.1 ∧ x.2.1 = r.1) && (subL x.1.2 r.2 && subL r.2 x.2.2)
def undL (x : BndM) : List Int := diffL x.2.2 x.1.2
def freeL : Nat → List BndM → List (Int × Int)
  | _, [] => []
  | i, x :: bs => (undL x).map (fun t => ((i : Int), t)) ++ freeL (i + 1) bs
def alikeB (x y : BndM) : Bool := decide (x.2.1 = x.1.1 ∧ y.1.1 = x.1.1 ∧ y.2.1 = x.1.1)
def okB (z : BndM) : Bool := subL z.1.2 z.2.2
theorem diff_inc {a b : List Int} (h : Inc a) : Inc (diffL a b) := h.sublist (List.filter_sublist)
end Go.Ab
/- Chapter 09: within, Equal, Contains, Valid. -/
namespace Go.Ab
open Go Go.Proofs
set_option maxRecDepth 20000
set_option maxHeartbeats 4000000
attribute [local irreducible] AW AOps thenD inBlockD AR iterEnds roundEndsN inlEnds noGotoD canon diffL interL subL relOk
end Go.Ab
/- Chapter 09: Contains, Valid. -/
namespace Go.Ab
open Go Go.Proofs
set_option maxRecDepth 20000
set_option maxHeartbeats 4000000
attribute [local irreducible] AW AOps thenD inBlockD AR iterEnds roundEndsN inlEnds noGotoD canon diffL interL subL relOk wB
end Go.Ab
