/- Chapter 07: the same trace, walked. -/
import Derived.Test.YtkejholhdmppmaaAkD
import Derived.Test.YtkejholhdmppmaaAbL2
set_option linter.unusedSimpArgs false
set_option linter.unusedVariables false
namespace Go.Ab
open Go Go.Proofs
open Nat (reduceAdd reduceSub)
set_option maxRecDepth 20000
set_option maxHeartbeats 2000000
/-- the state at a time. -/
def stM (m : ModM) (t : Nat) : List RelM := trN [] m.states m.loop.toNat t
def SameTr (a b : ModM) : Prop := a.atoms = b.atoms ∧ ∀ t, stM a t = stM b t
noncomputable def sameTr (a b : ModM) : Bool := @decide (SameTr a b) (Classical.propDecidable _)
theorem sameTr_t {a b : ModM} (h : SameTr a b) : sameTr a b = true := by unfold sameTr; exact @decide_eq_true _ (Classical.propDecidable _) h
theorem sameTr_f {a b : ModM} (h : ¬ SameTr a b) : sameTr a b = false := by unfold sameTr; exact @decide_eq_false _ (Classical.propDecidable _) h
theorem sameTr_iff {a b : ModM} : sameTr a b = true ↔ SameTr a b := by unfold sameTr; exact @decide_eq_true_iff _ (Classical.propDecidable _)
theorem Lp.lt {m : ModM} (h : Lp m) : m.loop.toNat < m.states.length := by have := h.lo; have := h.hi; omega
theorem Lp.idxM {m : ModM} (h : Lp m) (t : Nat) : idxM m t = (idxN m.states.length m.loop.toNat t : Nat) := by
  have h1 := h.lo
  have h2 := h.hi
  unfold Go.Ab.idxM
  by_cases ht : t < m.states.length
  · rw [if_pos (by omega), idxN_small ht]
  · rw [if_neg (by omega), idxN_mod h.lt (by omega)]
    have e1 : (t : Int) - m.loop = ((t - m.loop.toNat : Nat) : Int) := by omega
    have e2 : (m.states.length : Int) - m.loop = ((m.states.length - m.loop.toNat : Nat) : Int) := by omega
    rw [e1, e2, ← Int.ofNat_tmod]
    omega
theorem Lp.at {m : ModM} (h : Lp m) (t : Nat) (hn : (Go.Ab.idxM m t).toNat < m.states.length) : m.states[(Go.Ab.idxM m t).toNat] = stM m t := by
  have e := h.idxM t
  unfold stM trN
  have h3 := idxN_lt h.lt t
  rw [List.getD_eq_getElem?_getD, List.getElem?_eq_getElem h3, Option.getD_some]
  congr 1
  omega
theorem mul_le {p q : Int} {n : Int} (hp : 0 ≤ p ∧ p ≤ 1000) (hq : 0 ≤ q ∧ q ≤ 1000) : 0 ≤ p * q ∧ p * q ≤ 1000000 := by
  refine ⟨Int.mul_nonneg hp.1 hq.1, ?_⟩
  have h1 : p * q ≤ 1000 * q := Int.mul_le_mul_of_nonneg_right hp.2 hq.1
  omega
attribute [local irreducible] AW AOps thenD inBlockD AR iterEnds roundEndsN inlEnds idxM
theorem sameTrace_fn (a b : ModM) (ha : Lp a) (hb : Lp b) (la : a.states.length ≤ 1000) (lb : b.states.length ≤ 1000) : Fn Try.prog 13 [mdl a, mdl b] (litB (sameTr a b)) := by
  have hs := sEqual_fn a.atoms b.atoms
  have a1 := ha.lo
  have a2 := ha.hi
  have b1 := hb.lo
  have b2 := hb.hi
  by_cases h0 : a.atoms = b.atoms
  · rw [decide_eq_true h0] at hs
    have hpq := mul_le (n := 0) (p := (a.states.length : Int) - a.loop) (q := (b.states.length : Int) - b.loop) (by omega) (by omega)
    have hbd := tr_bound (d := ([] : List RelM)) (a := a.states) (b := b.states) ha.lt hb.lt
    have hN : max a.loop b.loop + ((a.states.length : Int) - a.loop) * ((b.states.length : Int) - b.loop) = ((max a.loop.toNat b.loop.toNat + (a.states.length - a.loop.toNat) * (b.states.length - b.loop.toNat) : Nat) : Int) := by
      have e1 : (a.states.length : Int) - a.loop = ((a.states.length - a.loop.toNat : Nat) : Int) := by omega
      have e2 : (b.states.length : Int) - b.loop = ((b.states.length - b.loop.toNat : Nat) : Int) := by omega
      rw [e1, e2]
      push_cast
      omega
    have hia := fun (t : Nat) (ht : t ≤ 10000000) => index_fn a t ⟨a1, a2⟩ ⟨by omega, by omega⟩
    have hib := fun (t : Nat) (ht : t ≤ 10000000) => index_fn b t ⟨b1, b2⟩ ⟨by omega, by omega⟩
    have ia := fun (t : Nat) => ha.idx (t := t) (by omega)
    have ib := fun (t : Nat) => hb.idx (t := t) (by omega)
    have ea := fun (t : Nat) => ha.at t
    have eb := fun (t : Nat) => hb.at t
    have hT : (∀ t, stM a t = stM b t) → sameTr a b = true := fun h => sameTr_t ⟨h0, h⟩
    have hF : ∀ t, ¬ stM a t = stM b t → sameTr a b = false := fun t h => sameTr_f fun h' => h (h'.2 t)
    have hbd' : (∀ t, t < max a.loop.toNat b.loop.toNat + (a.states.length - a.loop.toNat) * (b.states.length - b.loop.toNat) → stM a t = stM b t) → ∀ t, stM a t = stM b t := hbd
    generalize max a.loop.toNat b.loop.toNat + (a.states.length - a.loop.toNat) * (b.states.length - b.loop.toNat) = N at hN hbd'
    generalize sameTr a b = r at hT hF ⊢
    generalize hga : stM a = sa at hT hF hbd' ea
    generalize hgb : stM b = sb at hT hF hbd' eb
    generalize hxa : idxM a = xa at hia ia ea
    generalize hxb : idxM b = xb at hib ib eb
    clear hbd hga hgb hxa hxb ha hb
    obtain ⟨at1, st1, ss1, lp1⟩ := a
    obtain ⟨at2, st2, ss2, lp2⟩ := b
    simp only at *
    refine Fn.enter (n := 47) Try.func13 rfl rfl rfl rfl rfl (by decide) fun g hro_ hwt_ => ?_; (try (conv => rhs; simp only [Nf.all, Nat.reduceBEq, reduceAdd, reduceSub]))
    (refine zq ?_; refine AOps.box rfl rfl rfl rfl ?_; (conv => rhs; simp only [Nf.all, Nat.reduceBEq, reduceAdd, reduceSub]); refine AOps.box rfl rfl rfl rfl ?_; (conv => rhs; simp only [Nf.all, Nat.reduceBEq, reduceAdd, reduceSub]); refine za ?_; refine zd ?_; refine zo ?_; refine zq ?_; (conv => rhs; simp only [Nf.all, Nat.reduceBEq, reduceAdd, reduceSub]); refine AOps.fieldAddrN 33 0 0 rfl rfl rfl rfl ?_; refine AOps.fieldAddrN 30 0 0 rfl rfl rfl rfl ?_; refine zb ?_; refine AOps.fieldAddrN 33 0 0 rfl rfl rfl rfl ?_; refine AOps.fieldAddrN 30 0 0 rfl rfl rfl rfl ?_; refine zb ?_; refine AOps.call (hs) (.cons rfl (.pv _) (.cons rfl (.pv _) .nil)) rfl rfl (fun h_ => by cases h_) ?_; refine AOps.not rfl rfl rfl ?_; refine zd ?_; refine AW.cond_lf rfl rfl ?_; refine AW.skip ?_; refine thenD_n ?_; refine zq ?_; (conv => rhs; simp only [Nf.all, Nat.reduceBEq, reduceAdd, reduceSub]); refine AOps.makeFunc_2 rfl rfl rfl rfl rfl ?_; refine AOps.assign rfl rfl rfl ?_; (conv => rhs; simp only [Nf.all, Nat.reduceBEq, reduceAdd, reduceSub]); refine zd ?_; refine zo ?_; refine AW.regionQ rfl rfl (by kernel_rfl) (by with_reducible assumption) ?_; refine AOps.fieldAddrN 33 1 2 rfl rfl rfl rfl ?_; refine zb ?_; refine zn ?_; refine AOps.fieldAddrN 33 2 3 rfl rfl rfl rfl ?_; refine zb ?_; refine AOps.sub rfl rfl rfl rfl rfl (by omega) ?_; refine AOps.fieldAddrN 33 1 2 rfl rfl rfl rfl ?_; refine zb ?_; refine zn ?_; refine AOps.fieldAddrN 33 2 3 rfl rfl rfl rfl ?_; refine zb ?_; refine AOps.sub rfl rfl rfl rfl rfl (by omega) ?_; (iterate 2 refine za ?_); refine zd ?_; refine zo ?_; refine zq ?_; (conv => rhs; simp only [Nf.all, Nat.reduceBEq, reduceAdd, reduceSub]); refine AOps.fieldAddrN 33 2 3 rfl rfl rfl rfl ?_; refine zb ?_; refine AOps.fieldAddrN 33 2 3 rfl rfl rfl rfl ?_; refine zb ?_; refine AOps.max2 rfl rfl rfl rfl rfl ?_; (iterate 2 refine zm ?_); refine AOps.mul rfl rfl rfl rfl rfl (by omega) ?_; refine AOps.add rfl rfl rfl rfl rfl (by omega) ?_; refine zm ?_; refine zd ?_; refine AW.block ?_)
    refine AW.loop (fun (k : Nat) => { n := 47, env := [(5, .clo (.func 31) [] [.ptr 0 0, .ptr 1 0]), (38, litI N), (39, litI k)], objs := [(0, some (.box [.pv (ints at1), litI st1, .pv (stts ss1), litI lp1])), (1, some (.box [.pv (ints at2), litI st2, .pv (stts ss2), litI lp2]))], nx := 2 }) (fun k => k ≤ N ∧ ∀ t, t < k → sa t = sb t) (fun k => N - k) 0 ?_ ?_ ?_
    · exact ⟨Nat.zero_le _, fun t h => by omega⟩
    · exact weak rfl (by (refine ⟨.eq rfl rfl, ?_⟩; refine ⟨.intE (by first | with_reducible rfl | (exact hN)), ?_⟩; refine ⟨.eq rfl rfl, ?_⟩; exact trivial)) (by (refine ⟨.box _ rfl ?_, ?_⟩; refine ⟨.pvE (by first | with_reducible rfl | (exact hN)), ?_⟩; refine ⟨.intE (by first | with_reducible rfl | (exact hN)), ?_⟩; refine ⟨.pvE (by first | with_reducible rfl | (exact hN)), ?_⟩; refine ⟨.intE (by first | with_reducible rfl | (exact hN)), ?_⟩; exact trivial; refine ⟨.box _ rfl ?_, ?_⟩; refine ⟨.pvE (by first | with_reducible rfl | (exact hN)), ?_⟩; refine ⟨.intE (by first | with_reducible rfl | (exact hN)), ?_⟩; refine ⟨.pvE (by first | with_reducible rfl | (exact hN)), ?_⟩; refine ⟨.intE (by first | with_reducible rfl | (exact hN)), ?_⟩; (iterate 2 exact trivial))) rfl
    rintro k ⟨hk, hno⟩
    by_cases hlt : k < N
    · have h1 := ia k
      have h2 := ib k
      have hn1 : (xa k).toNat < ss1.length := by omega
      have hn2 : (xb k).toNat < ss2.length := by omega
      have hi1 := hia k (by omega)
      have hi2 := hib k (by omega)
      have he := same_fn ss1[(xa k).toNat] ss2[(xb k).toNat]
      have e1 := ea k hn1
      have e2 := eb k hn2
      by_cases heq : sa k = sb k
      · rw [decide_eq_true (by rw [e1, e2]; exact heq)] at he
        (refine zq ?_; refine zs ?_; refine zd ?_; refine zo ?_; refine zc ?_; refine AW.skip ?_; refine thenD_n ?_; refine zo ?_; refine AW.block ?_; refine zq ?_; (conv => rhs; simp only [Nf.all, Nat.reduceBEq, reduceAdd, reduceSub]); refine zm ?_; refine za ?_; refine zd ?_; refine zq ?_; (conv => rhs; simp only [Nf.all, Nat.reduceBEq, reduceAdd, reduceSub]); refine AOps.move_clo rfl rfl rfl ?_; refine zm ?_; (with_reducible apply AOps.inline (hf := Try.func31)); (with_reducible assumption); (iterate 10 exact rfl); intro g_ hro_ hwt_; (conv => rhs; simp only [Nf.all, Nat.reduceBEq, reduceAdd, reduceSub]); refine zq ?_; refine za ?_; refine zd ?_; refine zo ?_; refine AW.regionQ rfl rfl (by kernel_rfl) (by with_reducible assumption) ?_; refine AOps.fieldAddrN 33 1 2 rfl rfl rfl rfl ?_; refine zb ?_; refine AOps.load_ball rfl rfl rfl rfl rfl ?_; (conv => rhs; simp only [Nf.all, Nat.reduceBEq, reduceAdd, reduceSub]); refine zm ?_; refine AOps.call (hi1) (.cons rfl (.aggL (.cons (.pv _) (.cons (.pv _) (.cons (.pv _) (.cons (.pv _) .nil))))) (.cons rfl (.pv _) .nil)) rfl rfl (fun h_ => by cases h_) ?_; (focus ((with_reducible apply AOps.index_mapI); (iterate 7 exact rfl); omega; rotate_left; (first | omega | exact Nat.zero_lt_one | exact (by simp)))); refine zr ?_; refine AOps.fieldAddrN 33 1 2 rfl rfl rfl rfl ?_; refine zb ?_; refine AOps.load_ball rfl rfl rfl rfl rfl ?_; (conv => rhs; simp only [Nf.all, Nat.reduceBEq, reduceAdd, reduceSub]); refine zm ?_; refine AOps.call (hi2) (.cons rfl (.aggL (.cons (.pv _) (.cons (.pv _) (.cons (.pv _) (.cons (.pv _) .nil))))) (.cons rfl (.pv _) .nil)) rfl rfl (fun h_ => by cases h_) ?_; (focus ((with_reducible apply AOps.index_mapI); (iterate 7 exact rfl); omega; rotate_left; (first | omega | exact Nat.zero_lt_one | exact (by simp)))); refine zr ?_; refine AOps.call (he) (.cons rfl (.pv _) (.cons rfl (.pv _) .nil)) rfl rfl (fun h_ => by cases h_) ?_; refine za ?_; refine zd ?_; refine AW.ret ?_; refine inlEnds_rpv rfl rfl ?_; (conv => rhs; simp only [Nf.all, Nat.reduceBEq, reduceAdd, reduceSub]); refine AOps.not rfl rfl rfl ?_; refine zd ?_; refine AW.cond_lf rfl rfl ?_; refine AW.skip ?_; refine inBlockD_n ?_; refine thenD_n ?_; refine AW.region ?_; (conv => rhs; simp only [Nf.all, Nat.reduceBEq, reduceAdd, reduceSub]); refine AOps.add rfl rfl rfl rfl rfl (by omega) ?_; refine zm ?_; refine zd ?_)
        exact ⟨k + 1, ⟨by omega, fun t ht => by rcases Nat.lt_or_eq_of_le (Nat.le_of_lt_succ ht) with h | rfl; exact hno t h; exact heq⟩, by omega, weak rfl (by (refine ⟨.eq rfl rfl, ?_⟩; (iterate 2 refine ⟨.eq rfl rfl, ?_⟩); exact trivial)) (by (refine ⟨.box _ rfl ?_, ?_⟩; (iterate 4 refine ⟨.eq rfl rfl, ?_⟩); exact trivial; refine ⟨.box _ rfl ?_, ?_⟩; (iterate 4 refine ⟨.eq rfl rfl, ?_⟩); (iterate 2 exact trivial))) rfl⟩
      · rw [decide_eq_false (by rw [e1, e2]; exact heq)] at he
        have hr := hF k heq
        (refine zq ?_; refine zs ?_; refine zd ?_; refine zo ?_; refine zc ?_; refine AW.skip ?_; refine thenD_n ?_; refine zo ?_; refine AW.block ?_; refine zq ?_; (conv => rhs; simp only [Nf.all, Nat.reduceBEq, reduceAdd, reduceSub]); refine zm ?_; refine za ?_; refine zd ?_; refine zq ?_; (conv => rhs; simp only [Nf.all, Nat.reduceBEq, reduceAdd, reduceSub]); refine AOps.move_clo rfl rfl rfl ?_; refine zm ?_; (with_reducible apply AOps.inline (hf := Try.func31)); (with_reducible assumption); (iterate 10 exact rfl); intro g_ hro_ hwt_; (conv => rhs; simp only [Nf.all, Nat.reduceBEq, reduceAdd, reduceSub]); refine zq ?_; refine za ?_; refine zd ?_; refine zo ?_; refine AW.regionQ rfl rfl (by kernel_rfl) (by with_reducible assumption) ?_; refine AOps.fieldAddrN 33 1 2 rfl rfl rfl rfl ?_; refine zb ?_; refine AOps.load_ball rfl rfl rfl rfl rfl ?_; (conv => rhs; simp only [Nf.all, Nat.reduceBEq, reduceAdd, reduceSub]); refine zm ?_; refine AOps.call (hi1) (.cons rfl (.aggL (.cons (.pv _) (.cons (.pv _) (.cons (.pv _) (.cons (.pv _) .nil))))) (.cons rfl (.pv _) .nil)) rfl rfl (fun h_ => by cases h_) ?_; (focus ((with_reducible apply AOps.index_mapI); (iterate 7 exact rfl); omega; rotate_left; (first | omega | exact Nat.zero_lt_one | exact (by simp)))); refine zr ?_; refine AOps.fieldAddrN 33 1 2 rfl rfl rfl rfl ?_; refine zb ?_; refine AOps.load_ball rfl rfl rfl rfl rfl ?_; (conv => rhs; simp only [Nf.all, Nat.reduceBEq, reduceAdd, reduceSub]); refine zm ?_; refine AOps.call (hi2) (.cons rfl (.aggL (.cons (.pv _) (.cons (.pv _) (.cons (.pv _) (.cons (.pv _) .nil))))) (.cons rfl (.pv _) .nil)) rfl rfl (fun h_ => by cases h_) ?_; (focus ((with_reducible apply AOps.index_mapI); (iterate 7 exact rfl); omega; rotate_left; (first | omega | exact Nat.zero_lt_one | exact (by simp)))); refine zr ?_; refine AOps.call (he) (.cons rfl (.pv _) (.cons rfl (.pv _) .nil)) rfl rfl (fun h_ => by cases h_) ?_; refine za ?_; refine zd ?_; refine AW.ret ?_; refine inlEnds_rpv rfl rfl ?_; (conv => rhs; simp only [Nf.all, Nat.reduceBEq, reduceAdd, reduceSub]); refine AOps.not rfl rfl rfl ?_; refine zd ?_; refine AW.cond_lt rfl rfl ?_; refine zq ?_; (conv => rhs; simp only [Nf.all, Nat.reduceBEq, reduceAdd, reduceSub]); refine za ?_; refine zd ?_; refine AW.ret ?_; refine inBlockD_ret ?_; (iterate 2 refine thenD_ret ?_); refine inBlockD_ret ?_; refine thenD_ret ?_)
        (apply ends_ret; (exact Res.one (.tmp rfl rfl)); (refine Le.litB ?_; (exact hr.symm)))
    · have hr := hT (hbd' fun t ht => hno t (by omega))
      (refine zq ?_; refine zs ?_; refine zd ?_; refine zo ?_; refine zk ?_; refine AW.exit ?_; (iterate 2 refine thenD_exit ?_); refine inBlockD_exit ?_; refine thenD_n ?_; refine zq ?_; (conv => rhs; simp only [Nf.all, Nat.reduceBEq, reduceAdd, reduceSub]); refine za ?_; refine zd ?_; refine AW.ret ?_)
      (apply ends_ret; (exact Res.one (.tmp rfl rfl)); (refine Le.litB ?_; (exact hr.symm)))
  · rw [decide_eq_false h0] at hs
    rw [sameTr_f fun h => h0 h.1]
    obtain ⟨at1, st1, ss1, lp1⟩ := a
    obtain ⟨at2, st2, ss2, lp2⟩ := b
    simp only at *
    refine Fn.enter (n := 47) Try.func13 rfl rfl rfl rfl rfl (by decide) fun g hro_ hwt_ => ?_; (try (conv => rhs; simp only [Nf.all, Nat.reduceBEq, reduceAdd, reduceSub]))
    (refine zq ?_; refine AOps.box rfl rfl rfl rfl ?_; (conv => rhs; simp only [Nf.all, Nat.reduceBEq, reduceAdd, reduceSub]); refine AOps.box rfl rfl rfl rfl ?_; (conv => rhs; simp only [Nf.all, Nat.reduceBEq, reduceAdd, reduceSub]); refine za ?_; refine zd ?_; refine zo ?_; refine zq ?_; (conv => rhs; simp only [Nf.all, Nat.reduceBEq, reduceAdd, reduceSub]); refine AOps.fieldAddrN 33 0 0 rfl rfl rfl rfl ?_; refine AOps.fieldAddrN 30 0 0 rfl rfl rfl rfl ?_; refine zb ?_; refine AOps.fieldAddrN 33 0 0 rfl rfl rfl rfl ?_; refine AOps.fieldAddrN 30 0 0 rfl rfl rfl rfl ?_; refine zb ?_; refine AOps.call (hs) (.cons rfl (.pv _) (.cons rfl (.pv _) .nil)) rfl rfl (fun h_ => by cases h_) ?_; refine AOps.not rfl rfl rfl ?_; refine zd ?_; refine AW.cond_lt rfl rfl ?_; refine zq ?_; (conv => rhs; simp only [Nf.all, Nat.reduceBEq, reduceAdd, reduceSub]); refine za ?_; refine zd ?_; refine AW.ret ?_; refine thenD_ret ?_)
    (apply ends_ret; (exact Res.one (.tmp rfl rfl)); (refine Le.litB ?_; (rfl)))
end Go.Ab
