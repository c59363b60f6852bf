/- Chapter 07's laws: the shortest representation. -/
import Derived.Test.YtnhamicdejjjnaaAeU
set_option linter.unusedSimpArgs false
set_option linter.unusedVariables false
namespace Go.Ab
open Go Go.Proofs
set_option maxRecDepth 20000
set_option maxHeartbeats 8000000
theorem sh_states {m : ModM} (h : Lp m) {n l : Nat} (hs : Short (stM m) n l) : (shM m n l).states.length = n := by
  have := Short.leLen h hs
  simp [shM]; omega
theorem sh_lp {m : ModM} (h : Lp m) {n l : Nat} (hl : l < n) (hn : n ≤ m.states.length) : Lp (shM m n l) := by
  refine ⟨by simp [shM], by simp [shM]; omega, fun s hs => h.sm s (List.mem_of_mem_take hs)⟩
theorem sh_short {m : ModM} (h : Lp m) {n l : Nat} (hs : Short (stM m) n l) : Short (stM (shM m n l)) n l := by
  have e : stM (shM m n l) = stM m := funext ((sameTr_sh h hs.1.1 (Short.leLen h hs)).2 hs.1).2
  rw [e]; exact hs
theorem sh_sh {m : ModM} {n l n' l' : Nat} (hn : n' ≤ n) : shM (shM m n l) n' l' = shM m n' l' := by
  simp [shM, List.take_take, Nat.min_eq_left hn]
attribute [local irreducible] AW AOps thenD inBlockD AR iterEnds roundEndsN inlEnds noGotoD
theorem law7_fn (m : ModM) : Fn Try.prog 7 [mdl m] (litB true) := by
  have hh := head_fn
  have s1 := small_fn noS m
  have l1 := looped_fn m
  change Fn _ _ _ (litB (loopB m)) at l1
  cases e1 : smallB noS m with
  | false =>
    rw [e1] at s1
    refine Fn.enter (n := 82) Try.func7 rfl rfl rfl rfl rfl (by decide) fun g hro_ hwt_ => ?_; (try (conv => rhs; simp only [Nf.all, Nat.reduceBEq, Nat.reduceAdd, Nat.reduceSub]))
    (refine AW.seqR ?_; refine AOps.box rfl rfl rfl rfl ?_; (conv => rhs; simp only [Nf.all, Nat.reduceBEq, Nat.reduceAdd, Nat.reduceSub]); refine AOps.assign_pv rfl rfl rfl ?_; refine AOps.nilD ?_; refine AW.seqR ?_; (conv => rhs; simp only [Nf.all, Nat.reduceBEq, Nat.reduceAdd, Nat.reduceSub]); refine AOps.call (hh) .nil rfl rfl (fun h_ => by cases h_) ?_; refine AOps.assign_pv rfl rfl rfl ?_; refine AOps.nilD ?_; refine AW.seq ?_; refine AW.seqR ?_; (conv => rhs; simp only [Nf.all, Nat.reduceBEq, Nat.reduceAdd, Nat.reduceSub]); refine AOps.buildN 27 [] rfl rfl rfl rfl rfl rfl rfl rfl rfl ?_; (conv => rhs; simp only [Nf.all, Nat.reduceBEq, Nat.reduceAdd, Nat.reduceSub]); refine AOps.load_ball rfl rfl rfl rfl rfl ?_; (conv => rhs; simp only [Nf.all, Nat.reduceBEq, Nat.reduceAdd, Nat.reduceSub]); refine AOps.call (s1) (.cons rfl (.aggL (.cons (.nil _) (.cons (.nil _) (.cons (.pv _) (.cons (.pv _) .nil))))) (.cons rfl (.aggL (.cons (.pv _) (.cons (.pv _) (.cons (.pv _) (.cons (.pv _) .nil))))) .nil)) rfl rfl (fun h_ => by cases h_) ?_; refine AOps.not rfl rfl rfl ?_; refine AOps.move_pv rfl rfl rfl ?_; refine AOps.guard_lf rfl rfl rfl rfl rfl rfl rfl ?_; refine AOps.guard_lf rfl rfl rfl rfl rfl rfl rfl ?_; refine AOps.guard_lf rfl rfl rfl rfl rfl rfl rfl ?_; refine AOps.pick_lt rfl rfl rfl rfl rfl rfl ?_; refine AOps.nilD ?_; refine AW.cond_lt rfl rfl ?_; refine AW.seqR ?_; (conv => rhs; simp only [Nf.all, Nat.reduceBEq, Nat.reduceAdd, Nat.reduceSub]); refine AOps.move_pv rfl rfl rfl ?_; refine AOps.assign_pv rfl rfl rfl ?_; refine AOps.nilD ?_; refine AW.ret ?_; refine thenD_ret ?_)
    (apply ends_ret; (exact Res.one (.tmp rfl rfl)); (refine Le.litB ?_; rfl))
  | true =>
  cases e2 : loopB m with
  | false =>
    rw [e1] at s1
    rw [e2] at l1
    refine Fn.enter (n := 82) Try.func7 rfl rfl rfl rfl rfl (by decide) fun g hro_ hwt_ => ?_; (try (conv => rhs; simp only [Nf.all, Nat.reduceBEq, Nat.reduceAdd, Nat.reduceSub]))
    (refine AW.seqR ?_; refine AOps.box rfl rfl rfl rfl ?_; (conv => rhs; simp only [Nf.all, Nat.reduceBEq, Nat.reduceAdd, Nat.reduceSub]); refine AOps.assign_pv rfl rfl rfl ?_; refine AOps.nilD ?_; refine AW.seqR ?_; (conv => rhs; simp only [Nf.all, Nat.reduceBEq, Nat.reduceAdd, Nat.reduceSub]); refine AOps.call (hh) .nil rfl rfl (fun h_ => by cases h_) ?_; refine AOps.assign_pv rfl rfl rfl ?_; refine AOps.nilD ?_; refine AW.seq ?_; refine AW.seqR ?_; (conv => rhs; simp only [Nf.all, Nat.reduceBEq, Nat.reduceAdd, Nat.reduceSub]); refine AOps.buildN 27 [] rfl rfl rfl rfl rfl rfl rfl rfl rfl ?_; (conv => rhs; simp only [Nf.all, Nat.reduceBEq, Nat.reduceAdd, Nat.reduceSub]); refine AOps.load_ball rfl rfl rfl rfl rfl ?_; (conv => rhs; simp only [Nf.all, Nat.reduceBEq, Nat.reduceAdd, Nat.reduceSub]); refine AOps.call (s1) (.cons rfl (.aggL (.cons (.nil _) (.cons (.nil _) (.cons (.pv _) (.cons (.pv _) .nil))))) (.cons rfl (.aggL (.cons (.pv _) (.cons (.pv _) (.cons (.pv _) (.cons (.pv _) .nil))))) .nil)) rfl rfl (fun h_ => by cases h_) ?_; refine AOps.not rfl rfl rfl ?_; refine AOps.move_pv rfl rfl rfl ?_; refine AOps.guard_lt rfl rfl rfl rfl rfl rfl rfl ?_; refine AOps.load_ball rfl rfl rfl rfl rfl ?_; (conv => rhs; simp only [Nf.all, Nat.reduceBEq, Nat.reduceAdd, Nat.reduceSub]); refine AOps.guard_lt rfl rfl rfl rfl rfl rfl rfl ?_; refine AOps.call (l1) (.cons rfl (.aggL (.cons (.pv _) (.cons (.pv _) (.cons (.pv _) (.cons (.pv _) .nil))))) .nil) rfl rfl (fun h_ => by cases h_) ?_; refine AOps.guard_lt rfl rfl rfl rfl rfl rfl rfl ?_; refine AOps.not rfl rfl rfl ?_; refine AOps.pick_lf rfl rfl rfl rfl rfl rfl ?_; refine AOps.nilD ?_; refine AW.cond_lt rfl rfl ?_; refine AW.seqR ?_; (conv => rhs; simp only [Nf.all, Nat.reduceBEq, Nat.reduceAdd, Nat.reduceSub]); refine AOps.move_pv rfl rfl rfl ?_; refine AOps.assign_pv rfl rfl rfl ?_; refine AOps.nilD ?_; refine AW.ret ?_; refine thenD_ret ?_)
    (apply ends_ret; (exact Res.one (.tmp rfl rfl)); (refine Le.litB ?_; rfl))
  | true =>
  have om := okM e1 e2
  rw [e1] at s1
  rw [e2] at l1
  obtain ⟨n, l, hs⟩ := short_ex om.lp
  have hn := Short.leLen om.lp hs
  have hl := hs.1.1
  have hn64 := om.len
  have ls := sh_lp om.lp hl hn
  have hsl := sh_states om.lp hs
  have ca := shorten_fn m om.lp (by omega) (by have := om.at'; omega) n l hs
  have cb := shorten_fn (shM m n l) ls (by omega) (by have := om.at'; show m.atoms.length ≤ 1000; omega) n l (sh_short om.lp hs)
  rw [sh_sh (Nat.le_refl n)] at cb
  have l2 := looped_fn (shM m n l)
  rw [decide_eq_true (show 1 ≤ (shM m n l).states.length ∧ (shM m n l).states.length ≤ 64 ∧ 0 ≤ (shM m n l).loop ∧ (shM m n l).loop < (shM m n l).states.length from ⟨by omega, by omega, ls.lo, ls.hi⟩)] at l2
  have tms := sameTrace_fn m (shM m n l) om.lp ls (by omega) (by omega)
  rw [sameTr_t ((sameTr_sh om.lp hl hn).2 hs.1).symm] at tms
  have eqs := rEq07_fn (shM m n l) (shM m n l)
  rw [decide_eq_true rfl] at eqs
  have tcm : ∀ n' l', l' < n' → n' < n → Fn Try.prog 29 [mdl (shM m n' l'), mdl m] (litB false) := fun n' l' h1 h2 => by
    have := sameTrace_fn (shM m n' l') m (sh_lp om.lp h1 (by omega)) om.lp (by simp [shM]; omega) (by omega)
    rwa [sameTr_f fun h => by have := hs.2 _ _ ((sameTr_sh om.lp h1 (by omega)).1 h); omega] at this
  have htk : ∀ k, k < n → (m.states.take n).take k = m.states.take k := fun k hk => by rw [List.take_take, Nat.min_eq_left (by omega)]
  clear hs ls om e1 e2
  obtain ⟨at', st, ss, lp⟩ := m
  unfold shM at *
  simp only at *
  generalize ss.take n = s2 at *
  refine Fn.enter (n := 82) Try.func7 rfl rfl rfl rfl rfl (by decide) fun g hro_ hwt_ => ?_; (try (conv => rhs; simp only [Nf.all, Nat.reduceBEq, Nat.reduceAdd, Nat.reduceSub]))
  (refine AW.seqR ?_; refine AOps.box rfl rfl rfl rfl ?_; (conv => rhs; simp only [Nf.all, Nat.reduceBEq, Nat.reduceAdd, Nat.reduceSub]); refine AOps.assign_pv rfl rfl rfl ?_; refine AOps.nilD ?_; refine AW.seqR ?_; (conv => rhs; simp only [Nf.all, Nat.reduceBEq, Nat.reduceAdd, Nat.reduceSub]); refine AOps.call (hh) .nil rfl rfl (fun h_ => by cases h_) ?_; refine AOps.assign_pv rfl rfl rfl ?_; refine AOps.nilD ?_; refine AW.seq ?_; refine AW.seqR ?_; (conv => rhs; simp only [Nf.all, Nat.reduceBEq, Nat.reduceAdd, Nat.reduceSub]); refine AOps.buildN 27 [] rfl rfl rfl rfl rfl rfl rfl rfl rfl ?_; (conv => rhs; simp only [Nf.all, Nat.reduceBEq, Nat.reduceAdd, Nat.reduceSub]); refine AOps.load_ball rfl rfl rfl rfl rfl ?_; (conv => rhs; simp only [Nf.all, Nat.reduceBEq, Nat.reduceAdd, Nat.reduceSub]); refine AOps.call (s1) (.cons rfl (.aggL (.cons (.nil _) (.cons (.nil _) (.cons (.pv _) (.cons (.pv _) .nil))))) (.cons rfl (.aggL (.cons (.pv _) (.cons (.pv _) (.cons (.pv _) (.cons (.pv _) .nil))))) .nil)) rfl rfl (fun h_ => by cases h_) ?_; refine AOps.not rfl rfl rfl ?_; refine AOps.move_pv rfl rfl rfl ?_; refine AOps.guard_lt rfl rfl rfl rfl rfl rfl rfl ?_; refine AOps.load_ball rfl rfl rfl rfl rfl ?_; (conv => rhs; simp only [Nf.all, Nat.reduceBEq, Nat.reduceAdd, Nat.reduceSub]); refine AOps.guard_lt rfl rfl rfl rfl rfl rfl rfl ?_; refine AOps.call (l1) (.cons rfl (.aggL (.cons (.pv _) (.cons (.pv _) (.cons (.pv _) (.cons (.pv _) .nil))))) .nil) rfl rfl (fun h_ => by cases h_) ?_; refine AOps.guard_lt rfl rfl rfl rfl rfl rfl rfl ?_; refine AOps.not rfl rfl rfl ?_; refine AOps.pick_lf rfl rfl rfl rfl rfl rfl ?_; refine AOps.nilD ?_; refine AW.cond_lf rfl rfl ?_; refine AW.skip ?_; refine thenD_n ?_; refine AW.seqR ?_; (conv => rhs; simp only [Nf.all, Nat.reduceBEq, Nat.reduceAdd, Nat.reduceSub]); refine AOps.load_ball rfl rfl rfl rfl rfl ?_; (conv => rhs; simp only [Nf.all, Nat.reduceBEq, Nat.reduceAdd, Nat.reduceSub]); refine AOps.callp (ca) (.cons rfl (.aggL (.cons (.pv _) (.cons (.pv _) (.cons (.pv _) (.cons (.pv _) .nil))))) .nil) rfl ?_; refine AOps.allocN' rfl rfl rfl rfl ?_; (conv => rhs; simp only [Nf.all, Nat.reduceBEq, Nat.reduceAdd, Nat.reduceSub]); refine AOps.store_bn rfl rfl rfl rfl rfl rfl rfl rfl rfl (by with_reducible assumption) ?_; (conv => rhs; simp only [Nf.all, Nat.reduceBEq, Nat.reduceAdd, Nat.reduceSub]); refine AOps.nilD ?_; refine AW.seq ?_; refine AW.seq ?_)
  repeat (refine AW.seq ?_)
  refine AW.regionM [0] [33] rfl (by assumption) (by kernel_rfl) (by kernel_rfl) rfl ?_
  show AOps .held _ _ _ [_] _ _
  (refine AOps.load_ball rfl rfl rfl rfl rfl ?_; (conv => rhs; simp only [Nf.all, Nat.reduceBEq, Nat.reduceAdd, Nat.reduceSub]); refine AOps.nil ?_; refine onlyN_n ?_)
  intro k_ hk_
  (try (conv => rhs; simp only [Nf.all, Nat.reduceBEq, Nat.reduceAdd, Nat.reduceSub]))
  refine AR.step1M (i := 1) rfl (by kernel_rfl) rfl ?_
  intro g_ hgro_ hw_
  
  (refine AOps.call (l2) (.cons rfl (.aggL (.cons (.pv _) (.cons (.pv _) (.cons (.pv _) (.cons (.pv _) .nil))))) .nil) rfl rfl (fun h_ => by cases h_) ?_; refine AOps.nil ?_; refine onlyN_n ?_)
  refine AR.step1M (i := 2) rfl (by kernel_rfl) rfl ?_
  intro g_ hgro_ hw_
  (refine AOps.not rfl rfl rfl ?_; refine AOps.nil ?_; refine onlyN_n ?_)
  refine AR.step1M (i := 3) rfl (by kernel_rfl) rfl ?_
  intro g_ hgro_ hw_
  (refine AOps.move_pv rfl rfl rfl ?_; refine AOps.nil ?_; refine onlyN_n ?_)
  refine AR.readsM [4,5,6,7,8,9] (by kernel_rfl) (by kernel_rfl) (by kernel_rfl) (by kernel_rfl) ?_
  intro g_ hgro_
  show AOps .held _ _ _ [_, _, _, _, _, _] _ _
  (refine AOps.guard_lt rfl rfl rfl rfl rfl rfl rfl ?_; refine AOps.fieldAddrN 33 1 2 rfl rfl rfl rfl ?_; refine AOps.guard_lt rfl rfl rfl rfl rfl rfl rfl ?_; refine AOps.load_b1 rfl rfl rfl rfl rfl rfl ?_; refine AOps.guard_lt rfl rfl rfl rfl rfl rfl rfl ?_; refine AOps.len_map rfl rfl rfl rfl ?_; refine AOps.guard_lt rfl rfl rfl rfl rfl rfl rfl ?_; refine AOps.fieldAddrN 33 1 2 rfl rfl rfl rfl ?_; refine AOps.guard_lt rfl rfl rfl rfl rfl rfl rfl ?_; refine AOps.load_b1 rfl rfl rfl rfl rfl rfl ?_; refine AOps.guard_lt rfl rfl rfl rfl rfl rfl rfl ?_; refine AOps.len_map rfl rfl rfl rfl ?_; refine AOps.nil ?_; refine onlyN_n ?_)
  intro k_ hk_
  (try (conv => rhs; simp only [Nf.all, Nat.reduceBEq, Nat.reduceAdd, Nat.reduceSub]))
  refine AR.step1M (i := 10) rfl (by kernel_rfl) rfl ?_
  intro g_ hgro_ hw_
  (refine AOps.guard_lt rfl rfl rfl rfl rfl rfl rfl ?_; refine AOps.gtr rfl rfl rfl rfl rfl ?_; refine AOps.nil ?_; refine onlyN_n ?_)
  refine AR.step1M (i := 11) rfl (by kernel_rfl) rfl ?_
  intro g_ hgro_ hw_
  (refine AOps.pick_lf rfl rfl rfl rfl rfl rfl ?_; refine AOps.nil ?_; refine onlyN_n ?_)
  refine AR.step1M (i := 12) rfl (by kernel_rfl) rfl ?_
  intro g_ hgro_ hw_
  (refine AOps.move_pv rfl rfl rfl ?_; refine AOps.nil ?_; refine onlyN_n ?_)
  refine AR.readsM [13,14,15,16,17,18] (by kernel_rfl) (by kernel_rfl) (by kernel_rfl) (by kernel_rfl) ?_
  intro g_ hgro_
  show AOps .held _ _ _ [_, _, _, _, _, _] _ _
  (refine AOps.guardFy rfl rfl rfl rfl rfl rfl (by first | omega | decide) ?_; refine AOps.fieldAddrN 33 0 0 rfl rfl rfl rfl ?_; refine AOps.guardFy rfl rfl rfl rfl rfl rfl (by first | omega | decide) ?_; refine AOps.fieldAddrN 30 1 1 rfl rfl rfl rfl ?_; refine AOps.guardFy rfl rfl rfl rfl rfl rfl (by first | omega | decide) ?_; refine AOps.load_b1 rfl rfl rfl rfl rfl rfl ?_; refine AOps.guardFy rfl rfl rfl rfl rfl rfl (by first | omega | decide) ?_; refine AOps.fieldAddrN 33 1 2 rfl rfl rfl rfl ?_; refine AOps.guardFy rfl rfl rfl rfl rfl rfl (by first | omega | decide) ?_; refine AOps.load_b1 rfl rfl rfl rfl rfl rfl ?_; refine AOps.guardFy rfl rfl rfl rfl rfl rfl (by first | omega | decide) ?_; refine AOps.len_map rfl rfl rfl rfl ?_; refine AOps.nil ?_; refine onlyN_n ?_)
  intro k_ hk_
  (try (conv => rhs; simp only [Nf.all, Nat.reduceBEq, Nat.reduceAdd, Nat.reduceSub]))
  refine AR.step1M (i := 19) rfl (by kernel_rfl) rfl ?_
  intro g_ hgro_ hw_
  (refine AOps.guardFy rfl rfl rfl rfl rfl rfl (by first | omega | decide) ?_; refine AOps.neq rfl rfl rfl rfl rfl ?_; refine AOps.nil ?_; refine onlyN_n ?_)
  refine AR.step1M (i := 20) rfl (by kernel_rfl) rfl ?_
  intro g_ hgro_ hw_
  (refine AOps.pickF_pv rfl rfl (by first | omega | decide) rfl rfl rfl rfl ?_; refine AOps.nil ?_; refine onlyN_n ?_)
  refine AR.step1M (i := 21) rfl (by kernel_rfl) rfl ?_
  intro g_ hgro_ hw_
  (refine AOps.move_pv rfl rfl rfl ?_; refine AOps.nil ?_; refine onlyN_n ?_)
  refine AR.readsM [22,23] (by kernel_rfl) (by kernel_rfl) (by kernel_rfl) (by kernel_rfl) ?_
  intro g_ hgro_
  show AOps .held _ _ _ [_, _] _ _
  (refine AOps.guardFy rfl rfl rfl rfl rfl rfl (by first | omega | decide) ?_; refine AOps.load_ball rfl rfl rfl rfl rfl ?_; (conv => rhs; simp only [Nf.all, Nat.reduceBEq, Nat.reduceAdd, Nat.reduceSub]); refine AOps.guardFy rfl rfl rfl rfl rfl rfl (by first | omega | decide) ?_; refine AOps.load_ball rfl rfl rfl rfl rfl ?_; (conv => rhs; simp only [Nf.all, Nat.reduceBEq, Nat.reduceAdd, Nat.reduceSub]); refine AOps.nil ?_; refine onlyN_n ?_)
  intro k_ hk_
  (try (conv => rhs; simp only [Nf.all, Nat.reduceBEq, Nat.reduceAdd, Nat.reduceSub]))
  refine AR.step1M (i := 24) rfl (by kernel_rfl) rfl ?_
  intro g_ hgro_ hw_
  
  (refine AOps.guardFy rfl rfl rfl rfl rfl rfl (by first | omega | decide) ?_; refine AOps.call (tms) (.cons rfl (.aggL (.cons (.pv _) (.cons (.pv _) (.cons (.pv _) (.cons (.pv _) .nil))))) (.cons rfl (.aggL (.cons (.pv _) (.cons (.pv _) (.cons (.pv _) (.cons (.pv _) .nil))))) .nil)) rfl rfl (fun h_ => by cases h_) ?_; refine AOps.nil ?_; refine onlyN_n ?_)
  refine AR.step1M (i := 25) rfl (by kernel_rfl) rfl ?_
  intro g_ hgro_ hw_
  (refine AOps.guardFy rfl rfl rfl rfl rfl rfl (by first | omega | decide) ?_; refine AOps.not rfl rfl rfl ?_; refine AOps.nil ?_; refine onlyN_n ?_)
  refine AR.step1M (i := 26) rfl (by kernel_rfl) rfl ?_
  intro g_ hgro_ hw_
  (refine AOps.pickF_pv rfl rfl (by first | omega | decide) rfl rfl rfl rfl ?_; refine AOps.nil ?_; refine onlyN_n ?_)
  refine AR.step1M (i := 27) rfl (by kernel_rfl) rfl ?_
  intro g_ hgro_ hw_
  (refine AOps.move_pv rfl rfl rfl ?_; refine AOps.nil ?_; refine onlyN_n ?_)
  refine AR.readsM [28,30] (by kernel_rfl) (by kernel_rfl) (by kernel_rfl) (by kernel_rfl) ?_
  intro g_ hgro_
  show AOps .held _ _ _ [_, _] _ _
  (refine AOps.guard_lt rfl rfl rfl rfl rfl rfl rfl ?_; refine AOps.load_ball rfl rfl rfl rfl rfl ?_; (conv => rhs; simp only [Nf.all, Nat.reduceBEq, Nat.reduceAdd, Nat.reduceSub]); refine AOps.guard_lt rfl rfl rfl rfl rfl rfl rfl ?_; refine AOps.load_ball rfl rfl rfl rfl rfl ?_; (conv => rhs; simp only [Nf.all, Nat.reduceBEq, Nat.reduceAdd, Nat.reduceSub]); refine AOps.nil ?_; refine onlyN_n ?_)
  intro k_ hk_
  (try (conv => rhs; simp only [Nf.all, Nat.reduceBEq, Nat.reduceAdd, Nat.reduceSub]))
  refine AR.step1M (i := 29) rfl (by kernel_rfl) rfl ?_
  intro g_ hgro_ hw_
  
  (refine AOps.guard_lt rfl rfl rfl rfl rfl rfl rfl ?_; refine AOps.callp (cb) (.cons rfl (.aggL (.cons (.pv _) (.cons (.pv _) (.cons (.pv _) (.cons (.pv _) .nil))))) .nil) rfl ?_; refine AOps.nil ?_; refine onlyN_n ?_)
  refine AR.step1M (i := 31) rfl (by kernel_rfl) rfl ?_
  intro g_ hgro_ hw_
  
  (refine AOps.guard_lt rfl rfl rfl rfl rfl rfl rfl ?_; refine AOps.call (eqs) (.cons rfl (.aggL (.cons (.pv _) (.cons (.pv _) (.cons (.pv _) (.cons (.pv _) .nil))))) (.cons rfl (.aggL (.cons (.pv _) (.cons (.pv _) (.cons (.pv _) (.cons (.pv _) .nil))))) .nil)) rfl rfl (fun h_ => by cases h_) ?_; refine AOps.nil ?_; refine onlyN_n ?_)
  refine AR.step1M (i := 32) rfl (by kernel_rfl) rfl ?_
  intro g_ hgro_ hw_
  (refine AOps.guard_lt rfl rfl rfl rfl rfl rfl rfl ?_; refine AOps.not rfl rfl rfl ?_; refine AOps.nil ?_; refine onlyN_n ?_)
  refine AR.step1LM (i := 33) rfl (by kernel_rfl) rfl (by kernel_rfl) ?_
  intro g_ hgro_ hwt2_
  (refine AOps.pick_lf rfl rfl rfl rfl rfl rfl ?_; refine AOps.nil ?_; refine onlyN_n ?_)
  refine AR.doneM (by assumption) (by kernel_rfl) ?_
  (refine thenD_n ?_; refine AW.cond_lf rfl rfl ?_; refine AW.skip ?_; refine thenD_n ?_; refine AW.seq ?_; refine AW.seqR ?_; (conv => rhs; simp only [Nf.all, Nat.reduceBEq, Nat.reduceAdd, Nat.reduceSub]); refine AOps.assign_pv rfl rfl rfl ?_; refine AOps.nilD ?_; refine AW.block ?_)
  refine AW.loop (fun (k : Nat) => { n := 82, env := [(1, .ptr 0 0), (3, litB true), (4, .ptr 1 0), (5, litI k)], objs := [(0, some (.box [.pv (ints at'), litI st, .pv (stts ss), litI lp])), (1, some (.box [.pv (ints at'), litI n, .pv (stts s2), litI l]))], nx := 2 }) (fun k => 1 ≤ k ∧ k ≤ n) (fun k => n - k) 1 ?_ ?_ ?_
  · exact ⟨Nat.le_refl _, by omega⟩
  · exact weak rfl (by (first | (refine ⟨.eq rfl rfl, ?_⟩; refine ⟨.eq rfl rfl, ?_⟩; refine ⟨.eq rfl rfl, ?_⟩; refine ⟨.eq rfl rfl, ?_⟩; refine ⟨.eq rfl rfl, ?_⟩; exact trivial) | (refine ⟨.eq rfl rfl, ?_⟩; refine ⟨.eq rfl rfl, ?_⟩; refine ⟨.eq rfl rfl, ?_⟩; refine ⟨.eq rfl rfl, ?_⟩; exact trivial))) (by (refine ⟨.box _ rfl ?_, ?_⟩; refine ⟨.eq rfl rfl, ?_⟩; refine ⟨.eq rfl rfl, ?_⟩; refine ⟨.eq rfl rfl, ?_⟩; refine ⟨.eq rfl rfl, ?_⟩; exact trivial; refine ⟨.box _ rfl ?_, ?_⟩; refine ⟨.eq rfl rfl, ?_⟩; refine ⟨.eq rfl rfl, ?_⟩; refine ⟨.eq rfl rfl, ?_⟩; refine ⟨.eq rfl rfl, ?_⟩; exact trivial; exact trivial)) rfl
  rintro k ⟨hk1, hk⟩
  by_cases hlt : k < s2.length
  · (refine AW.seq ?_; refine AW.seqR ?_; refine AOps.move_pv rfl rfl rfl ?_; refine AOps.fieldAddrN 33 1 2 rfl rfl rfl rfl ?_; refine AOps.load_b1 rfl rfl rfl rfl rfl rfl ?_; refine AOps.len_map rfl rfl rfl rfl ?_; refine AOps.lss rfl rfl rfl rfl rfl ?_; refine AOps.nilD ?_; refine AW.condY rfl rfl (by first | omega | decide) ?_; refine AW.skip ?_; refine thenD_n ?_; refine AW.seq ?_; refine AW.block ?_; refine AW.seqR ?_; (conv => rhs; simp only [Nf.all, Nat.reduceBEq, Nat.reduceAdd, Nat.reduceSub]); refine AOps.assign_pv rfl rfl rfl ?_; refine AOps.nilD ?_; refine AW.block ?_)
    refine AW.loop (fun (j : Nat) => { n := 82, env := [(1, .ptr 0 0), (3, litB true), (4, .ptr 1 0), (5, litI k), (6, litI j)], objs := [(0, some (.box [.pv (ints at'), litI st, .pv (stts ss), litI lp])), (1, some (.box [.pv (ints at'), litI n, .pv (stts s2), litI l]))], nx := 2 }) (fun j => j ≤ k) (fun j => k - j) 0 ?_ ?_ ?_
    · exact Nat.zero_le _
    · exact weak rfl (by (first | (refine ⟨.eq rfl rfl, ?_⟩; refine ⟨.eq rfl rfl, ?_⟩; refine ⟨.eq rfl rfl, ?_⟩; refine ⟨.eq rfl rfl, ?_⟩; refine ⟨.eq rfl rfl, ?_⟩; exact trivial) | (refine ⟨.eq rfl rfl, ?_⟩; refine ⟨.eq rfl rfl, ?_⟩; refine ⟨.eq rfl rfl, ?_⟩; refine ⟨.eq rfl rfl, ?_⟩; exact trivial))) (by (refine ⟨.box _ rfl ?_, ?_⟩; refine ⟨.eq rfl rfl, ?_⟩; refine ⟨.eq rfl rfl, ?_⟩; refine ⟨.eq rfl rfl, ?_⟩; refine ⟨.eq rfl rfl, ?_⟩; exact trivial; refine ⟨.box _ rfl ?_, ?_⟩; refine ⟨.eq rfl rfl, ?_⟩; refine ⟨.eq rfl rfl, ?_⟩; refine ⟨.eq rfl rfl, ?_⟩; refine ⟨.eq rfl rfl, ?_⟩; exact trivial; exact trivial)) rfl
    rintro j hj
    by_cases hlt2 : j < k
    · have hc := tcm k j hlt2 (by omega)
      rw [← htk k (by omega)] at hc
      (refine AW.seq ?_; refine AW.seqR ?_; refine AOps.move_pv rfl rfl rfl ?_; refine AOps.move_pv rfl rfl rfl ?_; refine AOps.lss rfl rfl rfl rfl rfl ?_; refine AOps.nilD ?_; refine AW.condY rfl rfl (by first | omega | decide) ?_; refine AW.skip ?_; refine thenD_n ?_; refine AW.seq ?_; refine AW.block ?_; refine AW.seq ?_)
      repeat (refine AW.seq ?_)
      refine AW.regionM [0,1,2,3,4,5,6,7] [9] rfl (by assumption) (by kernel_rfl) (by kernel_rfl) rfl ?_
      show AOps .held _ _ _ [_, _, _, _, _, _, _, _] _ _
      (refine AOps.fieldAddrN 33 0 0 rfl rfl rfl rfl ?_; (with_reducible apply AOps.load_bs); (iterate 3 exact rfl); (repeat' first | exact Sub.nil | apply Sub.take | apply Sub.skip); (iterate 3 exact rfl); refine AOps.fieldAddrN 33 1 2 rfl rfl rfl rfl ?_; refine AOps.load_b1 rfl rfl rfl rfl rfl rfl ?_; refine AOps.move_pv rfl rfl rfl ?_; refine AOps.slice_to rfl rfl rfl rfl rfl rfl rfl (by omega) ?_; refine AOps.move_pv rfl rfl rfl ?_; refine AOps.buildN 33 [0, 2, 3] rfl rfl rfl rfl rfl rfl rfl rfl rfl ?_; (conv => rhs; simp only [Nf.all, Nat.reduceBEq, Nat.reduceAdd, Nat.reduceSub]); refine AOps.nil ?_; refine onlyN_n ?_)
      intro k_ hk_
      (try (conv => rhs; simp only [Nf.all, Nat.reduceBEq, Nat.reduceAdd, Nat.reduceSub]))
      refine AR.step1M (i := 8) rfl (by kernel_rfl) rfl ?_
      intro g_ hgro_ hw_
      (refine AOps.allocN' rfl rfl rfl rfl ?_; (conv => rhs; simp only [Nf.all, Nat.reduceBEq, Nat.reduceAdd, Nat.reduceSub]); refine AOps.nil ?_; refine onlyN_n ?_)
      refine AR.step1LM (i := 9) rfl (by kernel_rfl) rfl (by kernel_rfl) ?_
      intro g_ hgro_ hwt2_
      (refine AOps.store_bn rfl rfl rfl rfl rfl rfl rfl rfl rfl (by with_reducible assumption) ?_; (conv => rhs; simp only [Nf.all, Nat.reduceBEq, Nat.reduceAdd, Nat.reduceSub]); refine AOps.nil ?_; refine onlyN_n ?_)
      refine AR.doneM (by assumption) (by kernel_rfl) ?_
      (refine thenD_n ?_; refine AW.seqR ?_; refine AOps.move_pv rfl rfl rfl ?_; refine AOps.fieldAddrN 33 0 0 rfl rfl rfl rfl ?_; refine AOps.fieldAddrN 30 1 1 rfl rfl rfl rfl ?_; refine AOps.store_b1 rfl rfl rfl rfl rfl rfl rfl rfl rfl (by with_reducible assumption) ?_; (conv => rhs; simp only [Nf.all, Nat.reduceBEq, Nat.reduceAdd, Nat.reduceSub]); refine AOps.nilD ?_; refine AW.seqR ?_; refine AOps.load_ball rfl rfl rfl rfl rfl ?_; (conv => rhs; simp only [Nf.all, Nat.reduceBEq, Nat.reduceAdd, Nat.reduceSub]); refine AOps.load_ball rfl rfl rfl rfl rfl ?_; (conv => rhs; simp only [Nf.all, Nat.reduceBEq, Nat.reduceAdd, Nat.reduceSub]); refine AOps.call (hc) (.cons rfl (.aggL (.cons (.pv _) (.cons (.pv _) (.cons (.pv _) (.cons (.pv _) .nil))))) (.cons rfl (.aggL (.cons (.pv _) (.cons (.pv _) (.cons (.pv _) (.cons (.pv _) .nil))))) .nil)) rfl rfl (fun h_ => by cases h_) ?_; refine AOps.nilD ?_; refine AW.cond_lf rfl rfl ?_; refine AW.skip ?_; refine inBlockD_n ?_; refine thenD_n ?_; refine AW.region ?_; (conv => rhs; simp only [Nf.all, Nat.reduceBEq, Nat.reduceAdd, Nat.reduceSub]); refine AOps.move_pv rfl rfl rfl ?_; refine AOps.add rfl rfl rfl rfl rfl (by omega) ?_; refine AOps.assign_pv rfl rfl rfl ?_; refine AOps.nilD ?_)
      exact ⟨j + 1, by omega, by omega, weak rfl (by (first | (refine ⟨.eq rfl rfl, ?_⟩; refine ⟨.eq rfl rfl, ?_⟩; refine ⟨.eq rfl rfl, ?_⟩; refine ⟨.eq rfl rfl, ?_⟩; refine ⟨.eq rfl rfl, ?_⟩; exact trivial) | (refine ⟨.eq rfl rfl, ?_⟩; refine ⟨.eq rfl rfl, ?_⟩; refine ⟨.eq rfl rfl, ?_⟩; refine ⟨.eq rfl rfl, ?_⟩; exact trivial))) (by (refine ⟨.box _ rfl ?_, ?_⟩; refine ⟨.eq rfl rfl, ?_⟩; refine ⟨.eq rfl rfl, ?_⟩; refine ⟨.eq rfl rfl, ?_⟩; refine ⟨.eq rfl rfl, ?_⟩; exact trivial; refine ⟨.box _ rfl ?_, ?_⟩; refine ⟨.eq rfl rfl, ?_⟩; refine ⟨.eq rfl rfl, ?_⟩; refine ⟨.eq rfl rfl, ?_⟩; refine ⟨.eq rfl rfl, ?_⟩; exact trivial; exact trivial)) rfl⟩
    · (refine AW.seq ?_; refine AW.seqR ?_; refine AOps.move_pv rfl rfl rfl ?_; refine AOps.move_pv rfl rfl rfl ?_; refine AOps.lss rfl rfl rfl rfl rfl ?_; refine AOps.nilD ?_; refine AW.condN rfl rfl (by first | omega | decide) ?_; refine AW.exit ?_; refine thenD_exit ?_; refine thenD_exit ?_; refine inBlockD_exit ?_; refine inBlockD_n ?_; refine thenD_n ?_; refine AW.region ?_; (conv => rhs; simp only [Nf.all, Nat.reduceBEq, Nat.reduceAdd, Nat.reduceSub]); refine AOps.move_pv rfl rfl rfl ?_; refine AOps.add rfl rfl rfl rfl rfl (by omega) ?_; refine AOps.assign_pv rfl rfl rfl ?_; refine AOps.nilD ?_)
      exact ⟨k + 1, ⟨by omega, by omega⟩, by omega, weak rfl (by (first | (refine ⟨.eq rfl rfl, ?_⟩; refine ⟨.eq rfl rfl, ?_⟩; refine ⟨.eq rfl rfl, ?_⟩; refine ⟨.eq rfl rfl, ?_⟩; refine ⟨.eq rfl rfl, ?_⟩; exact trivial) | (refine ⟨.eq rfl rfl, ?_⟩; refine ⟨.eq rfl rfl, ?_⟩; refine ⟨.eq rfl rfl, ?_⟩; refine ⟨.eq rfl rfl, ?_⟩; exact trivial))) (by (refine ⟨.box _ rfl ?_, ?_⟩; refine ⟨.eq rfl rfl, ?_⟩; refine ⟨.eq rfl rfl, ?_⟩; refine ⟨.eq rfl rfl, ?_⟩; refine ⟨.eq rfl rfl, ?_⟩; exact trivial; refine ⟨.box _ rfl ?_, ?_⟩; refine ⟨.eq rfl rfl, ?_⟩; refine ⟨.eq rfl rfl, ?_⟩; refine ⟨.eq rfl rfl, ?_⟩; refine ⟨.eq rfl rfl, ?_⟩; exact trivial; exact trivial)) rfl⟩
  · (refine AW.seq ?_; refine AW.seqR ?_; refine AOps.move_pv rfl rfl rfl ?_; refine AOps.fieldAddrN 33 1 2 rfl rfl rfl rfl ?_; refine AOps.load_b1 rfl rfl rfl rfl rfl rfl ?_; refine AOps.len_map rfl rfl rfl rfl ?_; refine AOps.lss rfl rfl rfl rfl rfl ?_; refine AOps.nilD ?_; refine AW.condN rfl rfl (by first | omega | decide) ?_; refine AW.exit ?_; refine thenD_exit ?_; refine thenD_exit ?_; refine inBlockD_exit ?_; refine thenD_n ?_; refine AW.seqR ?_; (conv => rhs; simp only [Nf.all, Nat.reduceBEq, Nat.reduceAdd, Nat.reduceSub]); refine AOps.move_pv rfl rfl rfl ?_; refine AOps.assign_pv rfl rfl rfl ?_; refine AOps.nilD ?_; refine AW.ret ?_)
    (apply ends_ret; (exact Res.one (.tmp rfl rfl)); (refine Le.litB ?_; rfl))
end Go.Ab
