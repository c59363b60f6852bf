/- Chapter 07: the reference's test for the same trace, walked: pairs of states are followed until one comes up again. -/
import Derived.Test.YtnhamicdejjjnaaAeE
set_option linter.unusedSimpArgs false
set_option linter.unusedVariables false
namespace Go.Ab
open Go Go.Proofs
set_option maxRecDepth 20000
set_option maxHeartbeats 2000000
theorem nodup_lt : ∀ (n : Nat) {l : List Nat}, l.Nodup → (∀ x ∈ l, x < n) → l.length ≤ n := by
  intro n
  induction n with
  | zero => intro l _ h; cases l with | nil => simp | cons x l => have := h x (by simp); omega
  | succ n ih =>
    intro l hn h
    have h1 := ih (l := l.erase n) (hn.erase _) (fun x hx => by
      have h2 := h x (List.mem_of_mem_erase hx)
      have h3 : x ≠ n := fun e => by subst e; exact (List.Nodup.not_mem_erase hn) hx
      omega)
    have := List.length_erase (a := n) (l := l)
    split at this <;> omega
def visL (f : Nat → Nat) (t : Nat) : List Nat := (List.range t).map f
def metL (f : Nat → Nat) (t : Nat) : List Bool := (List.range 4096).map fun x => decide (x ∈ visL f t)
theorem visL_succ (f : Nat → Nat) (t : Nat) : visL f (t + 1) = visL f t ++ [f t] := by simp [visL, List.range_succ]
theorem metL_len (f : Nat → Nat) (t : Nat) : (metL f t).length = 4096 := by simp [metL]
theorem metL_get (f : Nat → Nat) (t p : Nat) (h : p < (metL f t).length) : (metL f t)[p] = decide (p ∈ visL f t) := by simp [metL]
theorem metL_zero (f : Nat → Nat) : List.replicate 4096 [PV.lit (.bool false)] = (metL f 0).map encB := by
  apply List.ext_getElem
  · rw [List.length_replicate, List.length_map, metL_len]
  · intro i h1 h2
    rw [List.getElem_replicate, List.getElem_map, metL_get]
    simp [encB, visL]
theorem metL_set (f : Nat → Nat) (t : Nat) : (metL f t).set (f t) true = metL f (t + 1) := by
  apply List.ext_getElem
  · simp [metL]
  · intro i h1 h2
    rw [List.getElem_set]
    by_cases h : f t = i
    · rw [if_pos h, metL_get, visL_succ]; simp [h]
    · rw [if_neg h, metL_get, metL_get, visL_succ]
      simp [Ne.symm h]
theorem Lp.next {m : ModM} (h : Lp m) (t : Nat) : (if 0 ≤ ((idxN m.states.length m.loop.toNat t : Nat) : Int) ∧ ((idxN m.states.length m.loop.toNat t : Nat) : Int) < m.states.length then nextM m (idxN m.states.length m.loop.toNat t : Nat) else 0) = (idxN m.states.length m.loop.toNat (t + 1) : Nat) := by
  have h1 := h.lo
  have h2 := h.hi
  have h3 := idxN_lt h.lt t
  rw [if_pos (by omega), idxN_succ h.lt]
  unfold nextM nextN
  by_cases h4 : idxN m.states.length m.loop.toNat t + 1 < m.states.length
  · rw [if_pos (by omega), if_pos h4]; omega
  · rw [if_neg (by omega), if_pos (by omega), if_neg h4]; omega
theorem pair_again {a b : ModM} (ha : Lp a) (hb : Lp b) {s t : Nat} (hst : s < t) (h1 : idxN a.states.length a.loop.toNat s = idxN a.states.length a.loop.toNat t) (h2 : idxN b.states.length b.loop.toNat s = idxN b.states.length b.loop.toNat t)
    (h : ∀ u, u < t → stM a u = stM b u) (u : Nat) : stM a u = stM b u := by
  have key : ∀ n, idxN a.states.length a.loop.toNat (s + n) = idxN a.states.length a.loop.toNat (t + n) ∧ idxN b.states.length b.loop.toNat (s + n) = idxN b.states.length b.loop.toNat (t + n) := by
    intro n
    induction n with
    | zero => exact ⟨h1, h2⟩
    | succ n ih => rw [← Nat.add_assoc, ← Nat.add_assoc, idxN_succ ha.lt, idxN_succ ha.lt, idxN_succ hb.lt, idxN_succ hb.lt, ih.1, ih.2]; exact ⟨rfl, rfl⟩
  induction u using Nat.strongRecOn with
  | _ u ih =>
    by_cases hu : u < t
    · exact h u hu
    · have h3 := key (u - t)
      rw [show t + (u - t) = u by omega] at h3
      have h4 := ih (s + (u - t)) (by omega)
      unfold stM trN at h4 ⊢
      rw [← h3.1, ← h3.2]
      exact h4
theorem st_get {m : ModM} (h : Lp m) (t : Nat) (hn : idxN m.states.length m.loop.toNat t < m.states.length) : m.states[idxN m.states.length m.loop.toNat t] = stM m t := by
  unfold stM trN
  rw [List.getD_eq_getElem?_getD, List.getElem?_eq_getElem hn, Option.getD_some]
attribute [local irreducible] AW AOps thenD inBlockD AR iterEnds roundEndsN inlEnds metL visL
theorem rSameTrace_fn (a b : ModM) (ha : Lp a) (hb : Lp b) (la : a.states.length ≤ 64) (lb : b.states.length ≤ 64) : Fn Try.prog 30 [mdl a, mdl b] (litB (sameTr a b)) := by
  have hs := ints_fn a.atoms b.atoms
  by_cases h0 : a.atoms = b.atoms
  · rw [decide_eq_true h0] at hs
    have hT : (∀ t, stM a t = stM b t) → sameTr a b = true := fun h => sameTr_t ⟨h0, h⟩
    have hF : ∀ t, ¬ stM a t = stM b t → sameTr a b = false := fun t h => sameTr_f fun h' => h (h'.2 t)
    have hna := fun (t : Nat) => rNext_fn a (idxN a.states.length a.loop.toNat t : Nat)
    have hnb := fun (t : Nat) => rNext_fn b (idxN b.states.length b.loop.toNat t : Nat)
    have ia := fun t => idxN_lt ha.lt t
    have ib := fun t => idxN_lt hb.lt t
    have ea := fun t => st_get ha t (ia t)
    have eb := fun t => st_get hb t (ib t)
    have za : idxN a.states.length a.loop.toNat 0 = 0 := idxN_small (by have := ha.lt; omega)
    have zb : idxN b.states.length b.loop.toNat 0 = 0 := idxN_small (by have := hb.lt; omega)
    have hag := fun (s t : Nat) (hst : s < t) => pair_again ha hb (s := s) (t := t) hst
    simp only [ha.next] at hna
    simp only [hb.next] at hnb
    generalize hxa : idxN a.states.length a.loop.toNat = xa at hna ia ea za hag
    generalize hxb : idxN b.states.length b.loop.toNat = xb at hnb ib eb zb hag
    generalize hga : stM a = sa at hT hF hag ea
    generalize hgb : stM b = sb at hT hF hag eb
    generalize sameTr a b = r at hT hF ⊢
    clear hxa hxb hga hgb ha hb
    obtain ⟨at1, st1, ss1, lp1⟩ := a
    obtain ⟨at2, st2, ss2, lp2⟩ := b
    simp only at *
    replace ia : ∀ t, xa t < ss1.length := ia
    replace ib : ∀ t, xb t < ss2.length := ib
    replace ea : ∀ t, ss1[xa t]'(ia t) = sa t := ea
    replace eb : ∀ t, ss2[xb t]'(ib t) = sb t := eb
    have hfx : ∀ t, 64 * xa t + xb t < 4096 := fun t => by have := ia t; have := ib t; omega
    refine Fn.enter (n := 49) Try.func30 rfl rfl rfl rfl rfl (by decide) fun g hro_ hwt_ => ?_; (try (conv => rhs; simp only [Nf.all, Nat.reduceBEq, Nat.reduceAdd, Nat.reduceSub]))
    (refine AW.seqR ?_; refine AOps.box rfl rfl rfl rfl ?_; (conv => rhs; simp only [Nf.all, Nat.reduceBEq, Nat.reduceAdd, Nat.reduceSub]); refine AOps.box rfl rfl rfl rfl ?_; (conv => rhs; simp only [Nf.all, Nat.reduceBEq, Nat.reduceAdd, Nat.reduceSub]); refine AOps.assign_pv rfl rfl rfl ?_; refine AOps.nilD ?_; refine AW.seq ?_; refine AW.seqR ?_; (conv => rhs; simp only [Nf.all, Nat.reduceBEq, Nat.reduceAdd, Nat.reduceSub]); refine AOps.fieldAddrN 33 0 0 rfl rfl rfl rfl ?_; refine AOps.fieldAddrN 30 0 0 rfl rfl rfl rfl ?_; refine AOps.load_b1 rfl rfl rfl rfl rfl rfl ?_; refine AOps.fieldAddrN 33 0 0 rfl rfl rfl rfl ?_; refine AOps.fieldAddrN 30 0 0 rfl rfl rfl rfl ?_; refine AOps.load_b1 rfl rfl rfl rfl rfl rfl ?_; refine AOps.call (hs) (.cons rfl (.pv _) (.cons rfl (.pv _) .nil)) rfl rfl (fun h_ => by cases h_) ?_; refine AOps.not rfl rfl rfl ?_; refine AOps.nilD ?_; refine AW.cond_lf rfl rfl ?_; refine AW.skip ?_; refine thenD_n ?_; refine AW.seqR ?_; (conv => rhs; simp only [Nf.all, Nat.reduceBEq, Nat.reduceAdd, Nat.reduceSub]); refine AOps.makeSlice1 rfl rfl rfl rfl rfl rfl rfl rfl rfl rfl (by omega) ?_; (conv => rhs; simp only [Nf.all, Nat.reduceBEq, Nat.reduceAdd, Nat.reduceSub]); refine AOps.assign_own rfl rfl rfl ?_; refine AOps.nilD ?_; refine AW.seqR ?_; (conv => rhs; simp only [Nf.all, Nat.reduceBEq, Nat.reduceAdd, Nat.reduceSub]); refine AOps.assign_pv rfl rfl rfl ?_; refine AOps.nilD ?_; refine AW.seqR ?_; (conv => rhs; simp only [Nf.all, Nat.reduceBEq, Nat.reduceAdd, Nat.reduceSub]); refine AOps.assign_pv rfl rfl rfl ?_; refine AOps.nilD ?_; refine AW.seq ?_; refine AW.block ?_)
    refine AW.loop (fun (t : Nat) => { n := 49, env := [(2, .ptr 0 0), (3, .ptr 1 0), (5, .own 2 4 1 ((metL (fun t => 64 * xa t + xb t) t).map encB)), (6, litI (xa t)), (7, litI (xb t))], objs := [(0, some (.box [.pv (ints at1), litI st1, .pv (stts ss1), litI lp1])), (1, some (.box [.pv (ints at2), litI st2, .pv (stts ss2), litI lp2])), (2, some .row)], nx := 3 })
      (fun t => (visL (fun t => 64 * xa t + xb t) t).Nodup ∧ ∀ s, s < t → sa s = sb s) (fun t => 4096 - t) 0 ?_ ?_ ?_
    · exact ⟨by simp [visL], fun t h => by omega⟩
    · exact weak rfl (by (refine ⟨.eq rfl rfl, ?_⟩; refine ⟨.eq rfl rfl, ?_⟩; refine ⟨.ownE (by first | with_reducible rfl | (first | exact metL_zero _ | (rw [za]; rfl) | (rw [zb]; rfl))) rfl, ?_⟩; refine ⟨.intE (by first | with_reducible rfl | (first | exact metL_zero _ | (rw [za]; rfl) | (rw [zb]; rfl))), ?_⟩; refine ⟨.intE (by first | with_reducible rfl | (first | exact metL_zero _ | (rw [za]; rfl) | (rw [zb]; rfl))), ?_⟩; exact trivial)) (by (refine ⟨.box _ rfl ?_, ?_⟩; refine ⟨.pvE (by first | with_reducible rfl | (first | exact metL_zero _ | (rw [za]; rfl) | (rw [zb]; rfl))), ?_⟩; refine ⟨.intE (by first | with_reducible rfl | (first | exact metL_zero _ | (rw [za]; rfl) | (rw [zb]; rfl))), ?_⟩; refine ⟨.pvE (by first | with_reducible rfl | (first | exact metL_zero _ | (rw [za]; rfl) | (rw [zb]; rfl))), ?_⟩; refine ⟨.intE (by first | with_reducible rfl | (first | exact metL_zero _ | (rw [za]; rfl) | (rw [zb]; rfl))), ?_⟩; exact trivial; refine ⟨.box _ rfl ?_, ?_⟩; refine ⟨.pvE (by first | with_reducible rfl | (first | exact metL_zero _ | (rw [za]; rfl) | (rw [zb]; rfl))), ?_⟩; refine ⟨.intE (by first | with_reducible rfl | (first | exact metL_zero _ | (rw [za]; rfl) | (rw [zb]; rfl))), ?_⟩; refine ⟨.pvE (by first | with_reducible rfl | (first | exact metL_zero _ | (rw [za]; rfl) | (rw [zb]; rfl))), ?_⟩; refine ⟨.intE (by first | with_reducible rfl | (first | exact metL_zero _ | (rw [za]; rfl) | (rw [zb]; rfl))), ?_⟩; exact trivial; refine ⟨.row rfl, ?_⟩; exact trivial)) rfl
    rintro t ⟨hnd, hno⟩
    have h1 := ia t
    have h2 := ib t
    have hml := metL_len (fun t => 64 * xa t + xb t) t
    have hp : (64 * (xa t : Int) + (xb t : Int)).toNat = 64 * xa t + xb t := by omega
    have hmg := metL_get (fun t => 64 * xa t + xb t) t (64 * (xa t : Int) + (xb t : Int)).toNat (by omega)
    by_cases hin : 64 * xa t + xb t ∈ visL (fun t => 64 * xa t + xb t) t
    · rw [decide_eq_true (by rw [hp]; exact hin)] at hmg
      have hr := hT (by
        unfold visL at hin
        obtain ⟨s, hs1, hs2⟩ := List.mem_map.1 hin
        have hs3 : s < t := by simpa using hs1
        have h3 := ia s
        have h4 := ib s
        exact hag s t hs3 (by omega) (by omega) hno)
      (refine AW.seq ?_; refine AW.seqR ?_; refine AOps.move_own rfl rfl rfl ?_; refine AOps.move_pv rfl rfl rfl ?_; refine AOps.mul rfl rfl rfl rfl rfl (by omega) ?_; refine AOps.move_pv rfl rfl rfl ?_; refine AOps.add rfl rfl rfl rfl rfl (by omega) ?_; refine AOps.index_own_mapI rfl rfl rfl rfl rfl rfl rfl (by omega) (by omega) ?_; (focus ((with_reducible apply AOps.load_o1_mapI); (iterate 4 exact rfl); exact (fun h_ => by cases h_); rotate_left; (first | omega | exact Nat.zero_lt_one | exact (by simp)))); refine AOps.not rfl rfl rfl ?_; refine AOps.nilD ?_; (focus ((with_reducible apply AW.cond); exact rfl; exact rfl; all_goals intro hc_)); refine AW.skip ?_; refine thenD_n ?_; refine AW.block ?_; refine AW.seqR ?_; (conv => rhs; simp only [Nf.all, Nat.reduceBEq, Nat.reduceAdd, Nat.reduceSub]); refine AOps.move_own rfl rfl rfl ?_; refine AOps.move_pv rfl rfl rfl ?_; refine AOps.mul rfl rfl rfl rfl rfl (by omega) ?_; refine AOps.move_pv rfl rfl rfl ?_; refine AOps.add rfl rfl rfl rfl rfl (by omega) ?_; refine AOps.index_own_mapI rfl rfl rfl rfl rfl rfl rfl (by omega) (by omega) ?_; refine AOps.store_o1 rfl rfl rfl rfl rfl rfl rfl rfl ?_; refine AOps.nilD ?_; refine AW.seq ?_; refine AW.seq ?_; refine AW.regionQ rfl rfl (by kernel_rfl) (by with_reducible assumption) ?_; refine AOps.fieldAddrN 33 1 2 rfl rfl rfl rfl ?_; refine AOps.load_b1 rfl rfl rfl rfl rfl rfl ?_; refine AOps.move_pv rfl rfl rfl ?_; (focus ((with_reducible apply AOps.index_map); (iterate 7 exact rfl); rotate_left; omega)); refine AOps.load_r1 rfl rfl rfl rfl ?_; refine AOps.fieldAddrN 33 1 2 rfl rfl rfl rfl ?_; refine AOps.load_b1 rfl rfl rfl rfl rfl rfl ?_; refine AOps.move_pv rfl rfl rfl ?_; (focus ((with_reducible apply AOps.index_map); (iterate 7 exact rfl); rotate_left; omega)); refine AOps.load_r1 rfl rfl rfl rfl ?_; (all_goals skip); rotate_left; refine AW.exit ?_; refine thenD_exit ?_; refine thenD_exit ?_; refine inBlockD_exit ?_; refine thenD_n ?_; refine AW.seqR ?_; (conv => rhs; simp only [Nf.all, Nat.reduceBEq, Nat.reduceAdd, Nat.reduceSub]); refine AOps.assign_pv rfl rfl rfl ?_; refine AOps.nilD ?_; refine AW.ret ?_; (all_goals skip); rotate_left)
      all_goals first | (exfalso; rw [hmg] at hc_; exact absurd hc_ (by decide)) | (apply ends_ret; (exact Res.one (.tmp rfl rfl)); (refine Le.litB ?_; exact hr.symm))
    · rw [decide_eq_false (by rw [hp]; exact hin)] at hmg
      have hms := metL_set (fun t => 64 * xa t + xb t) t
      have hnd2 : (visL (fun t => 64 * xa t + xb t) (t + 1)).Nodup := by
        rw [visL_succ, List.nodup_append]
        exact ⟨hnd, by simp, fun x hx y hy e => by simp at hy; subst hy; subst e; exact hin hx⟩
      have hlen := nodup_lt 4096 hnd2 (fun x hx => by unfold visL at hx; obtain ⟨s, _, rfl⟩ := List.mem_map.1 hx; exact hfx s)
      have hvl : (visL (fun t => 64 * xa t + xb t) (t + 1)).length = t + 1 := by unfold visL; simp
      have he := rSame_fn ss1[xa t] ss2[xb t]
      have e1 := ea t
      have e2 := eb t
      have hi1 := hna t
      have hi2 := hnb t
      by_cases heq : sa t = sb t
      · rw [decide_eq_true (by rw [e1, e2]; exact heq)] at he
        (refine AW.seq ?_; refine AW.seqR ?_; refine AOps.move_own rfl rfl rfl ?_; refine AOps.move_pv rfl rfl rfl ?_; refine AOps.mul rfl rfl rfl rfl rfl (by omega) ?_; refine AOps.move_pv rfl rfl rfl ?_; refine AOps.add rfl rfl rfl rfl rfl (by omega) ?_; refine AOps.index_own_mapI rfl rfl rfl rfl rfl rfl rfl (by omega) (by omega) ?_; (focus ((with_reducible apply AOps.load_o1_mapI); (iterate 4 exact rfl); exact (fun h_ => by cases h_); rotate_left; (first | omega | exact Nat.zero_lt_one | exact (by simp)))); refine AOps.not rfl rfl rfl ?_; refine AOps.nilD ?_; (focus ((with_reducible apply AW.cond); exact rfl; exact rfl; all_goals intro hc_)); refine AW.skip ?_; refine thenD_n ?_; refine AW.block ?_; refine AW.seqR ?_; (conv => rhs; simp only [Nf.all, Nat.reduceBEq, Nat.reduceAdd, Nat.reduceSub]); refine AOps.move_own rfl rfl rfl ?_; refine AOps.move_pv rfl rfl rfl ?_; refine AOps.mul rfl rfl rfl rfl rfl (by omega) ?_; refine AOps.move_pv rfl rfl rfl ?_; refine AOps.add rfl rfl rfl rfl rfl (by omega) ?_; refine AOps.index_own_mapI rfl rfl rfl rfl rfl rfl rfl (by omega) (by omega) ?_; refine AOps.store_o1 rfl rfl rfl rfl rfl rfl rfl rfl ?_; refine AOps.nilD ?_; refine AW.seq ?_; refine AW.seq ?_; refine AW.regionQ rfl rfl (by kernel_rfl) (by with_reducible assumption) ?_; refine AOps.fieldAddrN 33 1 2 rfl rfl rfl rfl ?_; refine AOps.load_b1 rfl rfl rfl rfl rfl rfl ?_; refine AOps.move_pv rfl rfl rfl ?_; (focus ((with_reducible apply AOps.index_map); (iterate 7 exact rfl); rotate_left; omega)); refine AOps.load_r1 rfl rfl rfl rfl ?_; refine AOps.fieldAddrN 33 1 2 rfl rfl rfl rfl ?_; refine AOps.load_b1 rfl rfl rfl rfl rfl rfl ?_; refine AOps.move_pv rfl rfl rfl ?_; (focus ((with_reducible apply AOps.index_map); (iterate 7 exact rfl); rotate_left; omega)); refine AOps.load_r1 rfl rfl rfl rfl ?_; refine AOps.call (he) (.cons rfl (.pv _) (.cons rfl (.pv _) .nil)) rfl rfl (fun h_ => by cases h_) ?_; refine AOps.not rfl rfl rfl ?_; refine AOps.nilD ?_; refine AW.cond_lf rfl rfl ?_; refine AW.skip ?_; refine thenD_n ?_; refine AW.seqR ?_; (conv => rhs; simp only [Nf.all, Nat.reduceBEq, Nat.reduceAdd, Nat.reduceSub]); refine AOps.load_ball rfl rfl rfl rfl rfl ?_; (conv => rhs; simp only [Nf.all, Nat.reduceBEq, Nat.reduceAdd, Nat.reduceSub]); refine AOps.move_pv rfl rfl rfl ?_; refine AOps.call (hi1) (.cons rfl (.aggL (.cons (.pv _) (.cons (.pv _) (.cons (.pv _) (.cons (.pv _) .nil))))) (.cons rfl (.pv _) .nil)) rfl rfl (fun h_ => by cases h_) ?_; refine AOps.assign_pv rfl rfl rfl ?_; refine AOps.nilD ?_; refine AW.region ?_; (conv => rhs; simp only [Nf.all, Nat.reduceBEq, Nat.reduceAdd, Nat.reduceSub]); refine AOps.load_ball rfl rfl rfl rfl rfl ?_; (conv => rhs; simp only [Nf.all, Nat.reduceBEq, Nat.reduceAdd, Nat.reduceSub]); refine AOps.move_pv rfl rfl rfl ?_; refine AOps.call (hi2) (.cons rfl (.aggL (.cons (.pv _) (.cons (.pv _) (.cons (.pv _) (.cons (.pv _) .nil))))) (.cons rfl (.pv _) .nil)) rfl rfl (fun h_ => by cases h_) ?_; refine AOps.assign_pv rfl rfl rfl ?_; refine AOps.nil ?_; refine inBlockD_n ?_; refine thenD_n ?_; (all_goals skip); rotate_left; refine AW.exit ?_; refine thenD_exit ?_; refine thenD_exit ?_; refine inBlockD_exit ?_; refine thenD_n ?_; refine AW.seqR ?_; (conv => rhs; simp only [Nf.all, Nat.reduceBEq, Nat.reduceAdd, Nat.reduceSub]); refine AOps.assign_pv rfl rfl rfl ?_; refine AOps.nilD ?_; refine AW.ret ?_; (all_goals skip); rotate_left)
        all_goals first | (exfalso; rw [hmg] at hc_; exact absurd hc_ (by decide)) | exact ⟨t + 1, ⟨hnd2, fun s hs => by rcases Nat.lt_or_eq_of_le (Nat.le_of_lt_succ hs) with h | rfl; exact hno s h; exact heq⟩, by omega, weak rfl (by (refine ⟨.eq rfl rfl, ?_⟩; refine ⟨.eq rfl rfl, ?_⟩; refine ⟨.ownE (by first | with_reducible rfl | (rw [← hms, List.map_set, hp]; rfl)) rfl, ?_⟩; refine ⟨.intE (by first | with_reducible rfl | (rw [← hms, List.map_set, hp]; rfl)), ?_⟩; refine ⟨.intE (by first | with_reducible rfl | (rw [← hms, List.map_set, hp]; rfl)), ?_⟩; exact trivial)) (by (refine ⟨.box _ rfl ?_, ?_⟩; refine ⟨.pvE (by first | with_reducible rfl | (rw [← hms, List.map_set, hp]; rfl)), ?_⟩; refine ⟨.intE (by first | with_reducible rfl | (rw [← hms, List.map_set, hp]; rfl)), ?_⟩; refine ⟨.pvE (by first | with_reducible rfl | (rw [← hms, List.map_set, hp]; rfl)), ?_⟩; refine ⟨.intE (by first | with_reducible rfl | (rw [← hms, List.map_set, hp]; rfl)), ?_⟩; exact trivial; refine ⟨.box _ rfl ?_, ?_⟩; refine ⟨.pvE (by first | with_reducible rfl | (rw [← hms, List.map_set, hp]; rfl)), ?_⟩; refine ⟨.intE (by first | with_reducible rfl | (rw [← hms, List.map_set, hp]; rfl)), ?_⟩; refine ⟨.pvE (by first | with_reducible rfl | (rw [← hms, List.map_set, hp]; rfl)), ?_⟩; refine ⟨.intE (by first | with_reducible rfl | (rw [← hms, List.map_set, hp]; rfl)), ?_⟩; exact trivial; refine ⟨.row rfl, ?_⟩; exact trivial)) rfl⟩
      · rw [decide_eq_false (by rw [e1, e2]; exact heq)] at he
        have hr := hF t heq
        (refine AW.seq ?_; refine AW.seqR ?_; refine AOps.move_own rfl rfl rfl ?_; refine AOps.move_pv rfl rfl rfl ?_; refine AOps.mul rfl rfl rfl rfl rfl (by omega) ?_; refine AOps.move_pv rfl rfl rfl ?_; refine AOps.add rfl rfl rfl rfl rfl (by omega) ?_; refine AOps.index_own_mapI rfl rfl rfl rfl rfl rfl rfl (by omega) (by omega) ?_; (focus ((with_reducible apply AOps.load_o1_mapI); (iterate 4 exact rfl); exact (fun h_ => by cases h_); rotate_left; (first | omega | exact Nat.zero_lt_one | exact (by simp)))); refine AOps.not rfl rfl rfl ?_; refine AOps.nilD ?_; (focus ((with_reducible apply AW.cond); exact rfl; exact rfl; all_goals intro hc_)); refine AW.skip ?_; refine thenD_n ?_; refine AW.block ?_; refine AW.seqR ?_; (conv => rhs; simp only [Nf.all, Nat.reduceBEq, Nat.reduceAdd, Nat.reduceSub]); refine AOps.move_own rfl rfl rfl ?_; refine AOps.move_pv rfl rfl rfl ?_; refine AOps.mul rfl rfl rfl rfl rfl (by omega) ?_; refine AOps.move_pv rfl rfl rfl ?_; refine AOps.add rfl rfl rfl rfl rfl (by omega) ?_; refine AOps.index_own_mapI rfl rfl rfl rfl rfl rfl rfl (by omega) (by omega) ?_; refine AOps.store_o1 rfl rfl rfl rfl rfl rfl rfl rfl ?_; refine AOps.nilD ?_; refine AW.seq ?_; refine AW.seq ?_; refine AW.regionQ rfl rfl (by kernel_rfl) (by with_reducible assumption) ?_; refine AOps.fieldAddrN 33 1 2 rfl rfl rfl rfl ?_; refine AOps.load_b1 rfl rfl rfl rfl rfl rfl ?_; refine AOps.move_pv rfl rfl rfl ?_; (focus ((with_reducible apply AOps.index_map); (iterate 7 exact rfl); rotate_left; omega)); refine AOps.load_r1 rfl rfl rfl rfl ?_; refine AOps.fieldAddrN 33 1 2 rfl rfl rfl rfl ?_; refine AOps.load_b1 rfl rfl rfl rfl rfl rfl ?_; refine AOps.move_pv rfl rfl rfl ?_; (focus ((with_reducible apply AOps.index_map); (iterate 7 exact rfl); rotate_left; omega)); refine AOps.load_r1 rfl rfl rfl rfl ?_; refine AOps.call (he) (.cons rfl (.pv _) (.cons rfl (.pv _) .nil)) rfl rfl (fun h_ => by cases h_) ?_; refine AOps.not rfl rfl rfl ?_; refine AOps.nilD ?_; refine AW.cond_lt rfl rfl ?_; refine AW.seqR ?_; (conv => rhs; simp only [Nf.all, Nat.reduceBEq, Nat.reduceAdd, Nat.reduceSub]); refine AOps.assign_pv rfl rfl rfl ?_; refine AOps.nilD ?_; refine AW.ret ?_; refine thenD_ret ?_; refine inBlockD_ret ?_; refine thenD_ret ?_; refine inBlockD_ret ?_; refine thenD_ret ?_; (all_goals skip); rotate_left; refine AW.exit ?_; refine thenD_exit ?_; refine thenD_exit ?_; refine inBlockD_exit ?_; refine thenD_n ?_; refine AW.seqR ?_; (conv => rhs; simp only [Nf.all, Nat.reduceBEq, Nat.reduceAdd, Nat.reduceSub]); refine AOps.assign_pv rfl rfl rfl ?_; refine AOps.nilD ?_; refine AW.ret ?_; (all_goals skip); rotate_left)
        all_goals first | (exfalso; rw [hmg] at hc_; exact absurd hc_ (by decide)) | (apply ends_ret; (exact Res.one (.tmp rfl rfl)); (refine Le.litB ?_; exact hr.symm))
  · rw [decide_eq_false h0] at hs
    rw [sameTr_f fun h => h0 h.1]
    obtain ⟨at1, st1, ss1, lp1⟩ := a
    obtain ⟨at2, st2, ss2, lp2⟩ := b
    simp only at *
    refine Fn.enter (n := 49) Try.func30 rfl rfl rfl rfl rfl (by decide) fun g hro_ hwt_ => ?_; (try (conv => rhs; simp only [Nf.all, Nat.reduceBEq, Nat.reduceAdd, Nat.reduceSub]))
    (refine AW.seqR ?_; refine AOps.box rfl rfl rfl rfl ?_; (conv => rhs; simp only [Nf.all, Nat.reduceBEq, Nat.reduceAdd, Nat.reduceSub]); refine AOps.box rfl rfl rfl rfl ?_; (conv => rhs; simp only [Nf.all, Nat.reduceBEq, Nat.reduceAdd, Nat.reduceSub]); refine AOps.assign_pv rfl rfl rfl ?_; refine AOps.nilD ?_; refine AW.seq ?_; refine AW.seqR ?_; (conv => rhs; simp only [Nf.all, Nat.reduceBEq, Nat.reduceAdd, Nat.reduceSub]); refine AOps.fieldAddrN 33 0 0 rfl rfl rfl rfl ?_; refine AOps.fieldAddrN 30 0 0 rfl rfl rfl rfl ?_; refine AOps.load_b1 rfl rfl rfl rfl rfl rfl ?_; refine AOps.fieldAddrN 33 0 0 rfl rfl rfl rfl ?_; refine AOps.fieldAddrN 30 0 0 rfl rfl rfl rfl ?_; refine AOps.load_b1 rfl rfl rfl rfl rfl rfl ?_; refine AOps.call (hs) (.cons rfl (.pv _) (.cons rfl (.pv _) .nil)) rfl rfl (fun h_ => by cases h_) ?_; refine AOps.not rfl rfl rfl ?_; refine AOps.nilD ?_; refine AW.cond_lt rfl rfl ?_; refine AW.seqR ?_; (conv => rhs; simp only [Nf.all, Nat.reduceBEq, Nat.reduceAdd, Nat.reduceSub]); refine AOps.assign_pv rfl rfl rfl ?_; refine AOps.nilD ?_; refine AW.ret ?_; refine thenD_ret ?_)
    (apply ends_ret; (exact Res.one (.tmp rfl rfl)); (refine Le.litB ?_; rfl))
end Go.Ab
