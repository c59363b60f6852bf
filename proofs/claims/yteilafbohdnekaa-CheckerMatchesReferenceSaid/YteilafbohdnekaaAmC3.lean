/- Chapter 23: valid symmetries. -/
import Derived.Test.YteilafbohdnekaaAmC2
import Derived.Test.YteilafbohdnekaaAbL2
set_option linter.unusedSimpArgs false
set_option linter.unusedVariables false
namespace Go.Ab
open Go Go.Proofs
open Nat (reduceAdd reduceSub)
set_option maxRecDepth 20000
set_option maxHeartbeats 4000000
def metB (n : Nat) (l : List Int) : List Bool := (List.range n).map fun v => decide ((v + 1) ∈ l.map Int.natAbs)
theorem metB_len (n : Nat) (l : List Int) : (metB n l).length = n := by unfold metB; simp
theorem metB_get {n : Nat} {l : List Int} {v : Nat} (h : v < (metB n l).length) : (metB n l)[v] = decide ((v + 1) ∈ l.map Int.natAbs) := by unfold metB; simp
theorem metB_zero (n : Nat) : metB n [] = List.replicate n false := by
  unfold metB
  rw [List.eq_replicate_iff]
  simp
theorem metB_set {n : Nat} {l : List Int} {k v : Nat} (hk : k < l.length) (hv : v + 1 = l[k].natAbs) : (metB n (l.take k)).set v true = metB n (l.take (k + 1)) := by
  apply List.ext_getElem
  · simp [metB_len]
  · intro j h1 h2
    rw [List.getElem_set]
    by_cases e : v = j
    · subst e
      rw [if_pos rfl, metB_get, take_succ_get hk]
      exact (decide_eq_true (List.mem_map.2 ⟨l[k], List.mem_append.2 (.inr (List.mem_singleton.2 rfl)), hv.symm⟩)).symm
    · rw [if_neg e, metB_get, metB_get, take_succ_get hk]
      simp only [List.map_append, List.mem_append, List.map_cons, List.map_nil, List.mem_singleton]
      have : ¬ j + 1 = l[k].natAbs := by omega
      simp [this]
theorem nodup_snoc {l : List Int} {k : Nat} (hk : k < l.length) : ((l.take (k + 1)).map Int.natAbs).Nodup ↔ ((l.take k).map Int.natAbs).Nodup ∧ l[k].natAbs ∉ (l.take k).map Int.natAbs := by
  rw [take_succ_get hk, List.map_append, List.nodup_append]
  simp only [List.map_cons, List.map_nil, List.mem_singleton]
  constructor
  · rintro ⟨h1, _, h2⟩
    exact ⟨h1, fun h => h2 _ h _ rfl rfl⟩
  · rintro ⟨h1, h2⟩
    exact ⟨h1, by simp, fun a ha b hb e => h2 (by rw [← hb, ← e]; exact ha)⟩
theorem not_nodup {l : List Int} {k : Nat} (hk : k < l.length) (h : l[k].natAbs ∈ (l.take k).map Int.natAbs) : ¬ (l.map Int.natAbs).Nodup := fun hn => by
  have h1 : ((l.take (k + 1)).map Int.natAbs).Nodup := by
    rw [← List.take_append_drop (k + 1) l, List.map_append] at hn
    exact (List.nodup_append.1 hn).1
  exact ((nodup_snoc hk).1 h1).2 h
theorem all_snoc {α : Type} {p : α → Bool} {l : List α} {k : Nat} (hk : k < l.length) : (l.take (k + 1)).all p = ((l.take k).all p && p l[k]) := by
  rw [take_succ_get hk, List.all_append]; simp
theorem any_snoc {α : Type} {p : α → Bool} {l : List α} {k : Nat} (hk : k < l.length) : (l.take (k + 1)).any p = ((l.take k).any p || p l[k]) := by
  rw [take_succ_get hk, List.any_append]; simp
theorem any_yes {α : Type} {p : α → Bool} {l : List α} {k : Nat} (hk : k < l.length) (h : p l[k] = true) : l.any p = true := List.any_eq_true.2 ⟨_, List.getElem_mem hk, h⟩
theorem all_no {α : Type} {p : α → Bool} {l : List α} {k : Nat} (hk : k < l.length) (h : p l[k] = false) : l.all p = false := List.all_eq_false.2 ⟨_, List.getElem_mem hk, by simp [h]⟩
def symC (cl : List (List Int)) (sym c : List Int) : Bool := cl.any fun d => decide (canon d = canon (imgL sym c))
def symOk (vars : Int) (cl : List (List Int)) (sym : List Int) : Bool := decide ((sym.length : Int) = vars) && withinM vars sym && decide ((sym.map Int.natAbs).Nodup) && cl.all (symC cl sym)
attribute [local irreducible] AW AOps thenD inBlockD AR iterEnds roundEndsN inlEnds noGotoD canon sortL compL compZ metB imgL withinM
theorem symOk_fn (vars : Int) (cl : List (List Int)) (sym : List Int) (hf : FOk vars cl) (hs : sym.length ≤ 100000) : Fn Try.prog 17 [fml vars cl, .pv (ints sym)] (litB (symOk vars cl sym)) := by
  have hv := hf.hv
  have h3 := hf.h3
  have hw := cWithin_fn vars sym (by omega)
  by_cases e1 : (sym.length : Int) = vars
  · cases e2 : withinM vars sym with
    | false =>
      rw [e2] at hw
      have hr : symOk vars cl sym = false := by unfold symOk; rw [e2]; simp
      rw [hr]
      refine Fn.enter (n := 62) Try.func17 rfl rfl rfl rfl rfl (by decide) fun g hro_ hwt_ => ?_; (try (conv => rhs; simp only [Nf.all, Nat.reduceBEq, reduceAdd, reduceSub]))
      (refine zq ?_; refine AOps.box rfl rfl rfl rfl ?_; (conv => rhs; simp only [Nf.all, Nat.reduceBEq, reduceAdd, reduceSub]); refine za ?_; refine zd ?_; refine zo ?_; refine zq ?_; (conv => rhs; simp only [Nf.all, Nat.reduceBEq, reduceAdd, reduceSub]); refine zm ?_; refine zn ?_; refine AOps.fieldAddrN 24 0 0 rfl rfl rfl rfl ?_; refine zb ?_; refine AOps.neq rfl rfl rfl rfl rfl ?_; refine zm ?_; refine zy ?_; refine AOps.fieldAddrN 24 0 0 rfl rfl rfl rfl ?_; refine zy ?_; refine zb ?_; refine zy ?_; refine zm ?_; refine zy ?_; (with_reducible apply AOps.call (hw)); (repeat (first | exact .nil | (refine .cons rfl ?_ ?_; (first | exact .pv _ | exact .own _ _ _ _ rfl | exact .nil _ | exact .any _ | exact .rptr _ | (refine .aggL ?_; repeat (first | exact .nil | (refine .cons ?_ ?_; (first | exact .pv _ | exact .own _ _ _ _ rfl | exact .nil _)))))))); exact rfl; exact rfl; exact (fun h_ => by cases h_); refine zy ?_; refine AOps.not rfl rfl rfl ?_; refine AOps.pickF_pv rfl rfl (by first | omega | decide) rfl rfl rfl rfl ?_; refine zd ?_; refine AW.cond_lt rfl rfl ?_; refine zq ?_; (conv => rhs; simp only [Nf.all, Nat.reduceBEq, reduceAdd, reduceSub]); refine za ?_; refine zd ?_; refine AW.ret ?_; refine thenD_ret ?_)
      (apply ends_ret; (exact Res.one (.tmp rfl rfl)); (refine Le.litB ?_; (rfl)))
    | true =>
      rw [e2] at hw
      have hb := withinM_spec e2
      obtain ⟨n, rfl⟩ : ∃ n : Nat, vars = n := ⟨vars.toNat, by omega⟩
      refine Fn.enter (n := 62) Try.func17 rfl rfl rfl rfl rfl (by decide) fun g hro_ hwt_ => ?_; (try (conv => rhs; simp only [Nf.all, Nat.reduceBEq, reduceAdd, reduceSub]))
      (refine zq ?_; refine AOps.box rfl rfl rfl rfl ?_; (conv => rhs; simp only [Nf.all, Nat.reduceBEq, reduceAdd, reduceSub]); refine za ?_; refine zd ?_; refine zo ?_; refine zq ?_; (conv => rhs; simp only [Nf.all, Nat.reduceBEq, reduceAdd, reduceSub]); refine zm ?_; refine zn ?_; refine AOps.fieldAddrN 24 0 0 rfl rfl rfl rfl ?_; refine zb ?_; refine AOps.neq rfl rfl rfl rfl rfl ?_; refine zm ?_; refine zy ?_; refine AOps.fieldAddrN 24 0 0 rfl rfl rfl rfl ?_; refine zy ?_; refine zb ?_; refine zy ?_; refine zm ?_; refine zy ?_; (with_reducible apply AOps.call (hw)); (repeat (first | exact .nil | (refine .cons rfl ?_ ?_; (first | exact .pv _ | exact .own _ _ _ _ rfl | exact .nil _ | exact .any _ | exact .rptr _ | (refine .aggL ?_; repeat (first | exact .nil | (refine .cons ?_ ?_; (first | exact .pv _ | exact .own _ _ _ _ rfl | exact .nil _)))))))); exact rfl; exact rfl; exact (fun h_ => by cases h_); refine zy ?_; refine AOps.not rfl rfl rfl ?_; refine AOps.pickF_pv rfl rfl (by first | omega | decide) rfl rfl rfl rfl ?_; refine zd ?_; refine AW.cond_lf rfl rfl ?_; refine AW.skip ?_; refine thenD_n ?_; refine zq ?_; (conv => rhs; simp only [Nf.all, Nat.reduceBEq, reduceAdd, reduceSub]); refine AOps.fieldAddrN 24 0 0 rfl rfl rfl rfl ?_; refine zb ?_; refine AOps.makeSlice1 rfl rfl rfl rfl rfl rfl rfl rfl rfl rfl (by omega) ?_; (conv => rhs; simp only [Nf.all, Nat.reduceBEq, reduceAdd, reduceSub]); refine AOps.assign_own rfl rfl rfl ?_; refine zd ?_; refine zo ?_; refine zq ?_; (conv => rhs; simp only [Nf.all, Nat.reduceBEq, reduceAdd, reduceSub]); refine zm ?_; refine zn ?_; refine zm ?_; refine zd ?_; refine AW.block ?_)
      ((conv => rhs; simp only [Nf.all, Nat.reduceBEq, reduceAdd, reduceSub]); apply AW.loopR [28, 27, 2, 1] [0] (fun i : Nat => ([(5, .own 1 4 1 ((metB n (sym.take i)).map encB)), (29, litI i)] : List (Nat × AV))) (fun i : Nat => ([(1, some .row)] : List (Nat × Option Ob))) (fun i : Nat => i ≤ sym.length ∧ ((sym.take i).map Int.natAbs).Nodup) (fun i : Nat => sym.length - i) (0); (conv => lhs; simp only [Nf.lpR, Nf.all, Nat.reduceBEq, reduceAdd, reduceSub]); (all_goals skip))
      · exact ⟨Nat.zero_le _, by simp⟩
      · exact weak rfl (by (refine ⟨.ownE (by first | with_reducible rfl | (first | rfl | (rw [List.take_zero, metB_zero, List.map_replicate]; rfl))) rfl, ?_⟩; refine ⟨.intE (by first | with_reducible rfl | (first | rfl | (rw [List.take_zero, metB_zero, List.map_replicate]; rfl))), ?_⟩; refine ⟨.intE (by first | with_reducible rfl | (first | rfl | (rw [List.take_zero, metB_zero, List.map_replicate]; rfl))), ?_⟩; refine ⟨.pvE (by first | with_reducible rfl | (first | rfl | (rw [List.take_zero, metB_zero, List.map_replicate]; rfl))), ?_⟩; refine ⟨.eq rfl rfl, ?_⟩; refine ⟨.pvE (by first | with_reducible rfl | (first | rfl | (rw [List.take_zero, metB_zero, List.map_replicate]; rfl))), ?_⟩; exact trivial)) (by (refine ⟨.row rfl, ?_⟩; refine ⟨.box _ rfl ?_, ?_⟩; refine ⟨.intE (by first | with_reducible rfl | (first | rfl | (rw [List.take_zero, metB_zero, List.map_replicate]; rfl))), ?_⟩; refine ⟨.pvE (by first | with_reducible rfl | (first | rfl | (rw [List.take_zero, metB_zero, List.map_replicate]; rfl))), ?_⟩; (iterate 2 exact trivial))) rfl
      rintro i ⟨hi, hnd⟩
      have hml := metB_len n (sym.take i)
      by_cases hlt : i < sym.length
      · obtain ⟨b1, b2, b3⟩ := hb _ (List.getElem_mem hlt)
        have hva : (max sym[i] (-sym[i]) - 1).toNat < (metB n (sym.take i)).length := by rw [hml]; omega
        have hvb : (max sym[i] (-sym[i]) - 1).toNat + 1 = sym[i].natAbs := by omega
        have hg := metB_get hva
        rw [hvb] at hg
        by_cases hm : sym[i].natAbs ∈ (sym.take i).map Int.natAbs
        · rw [decide_eq_true hm] at hg
          have hr : symOk n cl sym = false := by unfold symOk; rw [decide_eq_false (not_nodup hlt hm)]; simp
          rw [hr]
          (refine zq ?_; refine zs ?_; refine zd ?_; refine zo ?_; refine zc ?_; refine AW.skip ?_; refine thenD_n ?_; refine zo ?_; refine AW.block ?_; refine zq ?_; (conv => rhs; simp only [Nf.all, Nat.reduceBEq, reduceAdd, reduceSub]); (focus ((with_reducible apply AOps.index_map); (iterate 7 exact rfl); rotate_left; omega)); refine zr ?_; refine za ?_; refine zd ?_; refine zq ?_; (conv => rhs; simp only [Nf.all, Nat.reduceBEq, reduceAdd, reduceSub]); (iterate 2 refine zm ?_); refine AOps.neg rfl rfl rfl (by omega) ?_; refine AOps.max2 rfl rfl rfl rfl rfl ?_; refine AOps.sub rfl rfl rfl rfl rfl (by omega) ?_; refine za ?_; refine zd ?_; refine zo ?_; refine zq ?_; (conv => rhs; simp only [Nf.all, Nat.reduceBEq, reduceAdd, reduceSub]); refine AOps.move_own rfl rfl rfl ?_; refine zm ?_; refine AOps.index_own_mapI rfl rfl rfl rfl rfl rfl rfl (by omega) (by omega) ?_; (focus ((with_reducible apply AOps.load_o1_mapI); (iterate 4 exact rfl); exact (fun h_ => by cases h_); rotate_left; (first | omega | exact Nat.zero_lt_one | exact (by simp)))); refine zd ?_; (focus ((with_reducible apply AW.cond); exact rfl; exact rfl; all_goals intro hc_)); refine zq ?_; (conv => rhs; simp only [Nf.all, Nat.reduceBEq, reduceAdd, reduceSub]); refine za ?_; refine zd ?_; refine AW.ret ?_; refine thenD_ret ?_; refine inBlockD_ret ?_; (iterate 2 refine thenD_ret ?_); refine inBlockD_ret ?_; refine thenD_ret ?_; (all_goals skip); rotate_left; refine AW.skip ?_; refine thenD_n ?_; refine AW.region ?_; (conv => rhs; simp only [Nf.all, Nat.reduceBEq, reduceAdd, reduceSub]); refine AOps.move_own rfl rfl rfl ?_; refine zm ?_; refine AOps.index_own_mapI rfl rfl rfl rfl rfl rfl rfl (by omega) (by omega) ?_; refine AOps.store_o1 rfl rfl rfl rfl rfl rfl rfl rfl ?_; refine AOps.nil ?_; refine inBlockD_n ?_; refine thenD_n ?_; refine AW.region ?_; (conv => rhs; simp only [Nf.all, Nat.reduceBEq, reduceAdd, reduceSub]); refine AOps.add rfl rfl rfl rfl rfl (by omega) ?_; refine zm ?_; refine zd ?_; (all_goals skip); rotate_left)
          · (apply ends_ret; (exact Res.one (.tmp rfl rfl)); (refine Le.litB ?_; (rfl)))
          · exact absurd (hg.symm.trans hc_) (by decide)
        · rw [decide_eq_false hm] at hg
          have hse := metB_set (n := n) hlt hvb
          (refine zq ?_; refine zs ?_; refine zd ?_; refine zo ?_; refine zc ?_; refine AW.skip ?_; refine thenD_n ?_; refine zo ?_; refine AW.block ?_; refine zq ?_; (conv => rhs; simp only [Nf.all, Nat.reduceBEq, reduceAdd, reduceSub]); (focus ((with_reducible apply AOps.index_map); (iterate 7 exact rfl); rotate_left; omega)); refine zr ?_; refine za ?_; refine zd ?_; refine zq ?_; (conv => rhs; simp only [Nf.all, Nat.reduceBEq, reduceAdd, reduceSub]); (iterate 2 refine zm ?_); refine AOps.neg rfl rfl rfl (by omega) ?_; refine AOps.max2 rfl rfl rfl rfl rfl ?_; refine AOps.sub rfl rfl rfl rfl rfl (by omega) ?_; refine za ?_; refine zd ?_; refine zo ?_; refine zq ?_; (conv => rhs; simp only [Nf.all, Nat.reduceBEq, reduceAdd, reduceSub]); refine AOps.move_own rfl rfl rfl ?_; refine zm ?_; refine AOps.index_own_mapI rfl rfl rfl rfl rfl rfl rfl (by omega) (by omega) ?_; (focus ((with_reducible apply AOps.load_o1_mapI); (iterate 4 exact rfl); exact (fun h_ => by cases h_); rotate_left; (first | omega | exact Nat.zero_lt_one | exact (by simp)))); refine zd ?_; (focus ((with_reducible apply AW.cond); exact rfl; exact rfl; all_goals intro hc_)); refine zq ?_; (conv => rhs; simp only [Nf.all, Nat.reduceBEq, reduceAdd, reduceSub]); refine za ?_; refine zd ?_; refine AW.ret ?_; refine thenD_ret ?_; refine inBlockD_ret ?_; (iterate 2 refine thenD_ret ?_); refine inBlockD_ret ?_; refine thenD_ret ?_; (all_goals skip); rotate_left; refine AW.skip ?_; refine thenD_n ?_; refine AW.region ?_; (conv => rhs; simp only [Nf.all, Nat.reduceBEq, reduceAdd, reduceSub]); refine AOps.move_own rfl rfl rfl ?_; refine zm ?_; refine AOps.index_own_mapI rfl rfl rfl rfl rfl rfl rfl (by omega) (by omega) ?_; refine AOps.store_o1 rfl rfl rfl rfl rfl rfl rfl rfl ?_; refine AOps.nil ?_; refine inBlockD_n ?_; refine thenD_n ?_; refine AW.region ?_; (conv => rhs; simp only [Nf.all, Nat.reduceBEq, reduceAdd, reduceSub]); refine AOps.add rfl rfl rfl rfl rfl (by omega) ?_; refine zm ?_; refine zd ?_; (all_goals skip); rotate_left)
          · exact absurd (hg.symm.trans hc_) (by decide)
          exact ⟨i + 1, ⟨by omega, (nodup_snoc hlt).2 ⟨hnd, hm⟩⟩, by omega, weak rfl (by (refine ⟨.ownE (by first | with_reducible rfl | (first | rfl | (rw [← hse, List.map_set]; rfl))) rfl, ?_⟩; refine ⟨.intE (by first | with_reducible rfl | (first | rfl | (rw [← hse, List.map_set]; rfl))), ?_⟩; refine ⟨.intE (by first | with_reducible rfl | (first | rfl | (rw [← hse, List.map_set]; rfl))), ?_⟩; refine ⟨.pvE (by first | with_reducible rfl | (first | rfl | (rw [← hse, List.map_set]; rfl))), ?_⟩; refine ⟨.eq rfl rfl, ?_⟩; refine ⟨.pvE (by first | with_reducible rfl | (first | rfl | (rw [← hse, List.map_set]; rfl))), ?_⟩; exact trivial)) (by (refine ⟨.row rfl, ?_⟩; refine ⟨.box _ rfl ?_, ?_⟩; refine ⟨.intE (by first | with_reducible rfl | (first | rfl | (rw [← hse, List.map_set]; rfl))), ?_⟩; refine ⟨.pvE (by first | with_reducible rfl | (first | rfl | (rw [← hse, List.map_set]; rfl))), ?_⟩; (iterate 2 exact trivial))) rfl⟩
      · rw [take_all (l := sym) (by omega)] at hnd
        have hr : symOk n cl sym = cl.all (symC cl sym) := by unfold symOk; rw [decide_eq_true e1, e2, decide_eq_true hnd]; simp
        rw [hr]
        (refine zq ?_; refine zs ?_; refine zd ?_; refine zo ?_; refine zk ?_; refine AW.exit ?_; (iterate 2 refine thenD_exit ?_); refine inBlockD_exit ?_; refine thenD_n ?_; refine zo ?_; refine zq ?_; (conv => rhs; simp only [Nf.all, Nat.reduceBEq, reduceAdd, reduceSub]); refine AOps.fieldAddrN 24 1 1 rfl rfl rfl rfl ?_; refine zb ?_; refine zn ?_; refine zm ?_; refine zd ?_; refine AW.block ?_)
        ((conv => rhs; simp only [Nf.all, Nat.reduceBEq, reduceAdd, reduceSub]); apply AW.loopR [48, 47, 2, 1] [0] (fun k : Nat => ([(49, litI k)] : List (Nat × AV))) (fun k : Nat => ([] : List (Nat × Option Ob))) (fun k : Nat => k ≤ cl.length ∧ (cl.take k).all (symC cl sym) = true) (fun k : Nat => cl.length - k) (0); (conv => lhs; simp only [Nf.lpR, Nf.all, Nat.reduceBEq, reduceAdd, reduceSub]); (all_goals skip))
        · exact ⟨Nat.zero_le _, rfl⟩
        · exact weak rfl (by (first | (refine ⟨.eq rfl rfl, ?_⟩; (iterate 17 refine ⟨.eq rfl rfl, ?_⟩); exact trivial) | (refine ⟨.eq rfl rfl, ?_⟩; (iterate 4 refine ⟨.eq rfl rfl, ?_⟩); exact trivial))) (by (first | (refine ⟨.box _ rfl ?_, ?_⟩; refine ⟨.eq rfl rfl, ?_⟩; exact trivial; refine ⟨.box _ rfl ?_, ?_⟩; (iterate 2 refine ⟨.eq rfl rfl, ?_⟩); (iterate 2 exact trivial)) | (refine ⟨.box _ rfl ?_, ?_⟩; (iterate 2 refine ⟨.eq rfl rfl, ?_⟩); (iterate 2 exact trivial)))) rfl
        rintro k ⟨hk, hal⟩
        by_cases hlk : k < cl.length
        · obtain ⟨c1, c2⟩ := hf.hcl _ (List.getElem_mem hlk)
          rw [← e1] at c1
          have hsm := sm_within hv e2
          have him := image_fn sym cl[k] hsm (by omega) c2 c1
          have hil := imgL_len sym cl[k]
          have has := all_snoc (p := symC cl sym) hlk
          rw [hal, Bool.true_and] at has
          have hsy : symC cl sym cl[k] = cl.any fun d => decide (canon d = canon (imgL sym cl[k])) := rfl
          generalize imgL sym cl[k] = mp at him hil hsy
          (refine zq ?_; refine zs ?_; refine zd ?_; refine zo ?_; refine zc ?_; refine AW.skip ?_; refine thenD_n ?_; refine zo ?_; refine AW.block ?_; refine zq ?_; (conv => rhs; simp only [Nf.all, Nat.reduceBEq, reduceAdd, reduceSub]); (focus ((with_reducible apply AOps.index_map); (iterate 7 exact rfl); rotate_left; omega)); refine zr ?_; refine za ?_; refine zd ?_; refine zq ?_; (conv => rhs; simp only [Nf.all, Nat.reduceBEq, reduceAdd, reduceSub]); (iterate 2 refine zm ?_); (with_reducible apply AOps.callp (him)); (repeat (first | exact .nil | (refine .cons rfl ?_ ?_; (first | exact .pv _ | exact .own _ _ _ _ rfl | exact .nil _ | exact .any _ | exact .rptr _ | (refine .aggL ?_; repeat (first | exact .nil | (refine .cons ?_ ?_; (first | exact .pv _ | exact .own _ _ _ _ rfl | exact .nil _)))))))); exact rfl; refine AOps.allocN' rfl rfl rfl rfl ?_; (conv => rhs; simp only [Nf.all, Nat.reduceBEq, reduceAdd, reduceSub]); refine AOps.store_b1 rfl rfl rfl rfl rfl rfl rfl rfl rfl (by with_reducible assumption) ?_; (conv => rhs; simp only [Nf.all, Nat.reduceBEq, reduceAdd, reduceSub]); refine zd ?_; refine zq ?_; refine AOps.fieldAddrN 24 1 1 rfl rfl rfl rfl ?_; refine zb ?_; refine AOps.makeFunc_c rfl rfl rfl ?_; (with_reducible apply AOps.inline (hf := Try.func31)); (with_reducible assumption); (iterate 10 exact rfl); intro g_ hro_ hwt_; (conv => rhs; simp only [Nf.all, Nat.reduceBEq, reduceAdd, reduceSub]); refine zq ?_; refine za ?_; refine zd ?_; refine zq ?_; (conv => rhs; simp only [Nf.all, Nat.reduceBEq, reduceAdd, reduceSub]); refine zm ?_; refine AOps.move_clo rfl rfl rfl ?_; (with_reducible apply AOps.inline (hf := Try.func46)); (with_reducible assumption); (iterate 10 exact rfl); intro g_ hro_ hwt_; (conv => rhs; simp only [Nf.all, Nat.reduceBEq, reduceAdd, reduceSub]); refine zq ?_; refine za ?_; refine zd ?_; refine zo ?_; refine zq ?_; (conv => rhs; simp only [Nf.all, Nat.reduceBEq, reduceAdd, reduceSub]); refine zm ?_; refine zn ?_; refine zm ?_; refine zd ?_; refine AW.block ?_)
          ((conv => rhs; simp only [Nf.all, Nat.reduceBEq, reduceAdd, reduceSub]); apply AW.loopR [7, 0, 1, 1006, 1005, 1004, 1000, 1001, 2058, 2057, 2056, 2011, 2049, 2048, 2047, 2002, 2001] [2, 0] (fun j : Nat => ([(8, litI j)] : List (Nat × AV))) (fun j : Nat => ([] : List (Nat × Option Ob))) (fun j : Nat => j ≤ cl.length ∧ (cl.take j).any (fun d => decide (canon d = canon mp)) = false) (fun j : Nat => cl.length - j) (0); (conv => lhs; simp only [Nf.lpR, Nf.all, Nat.reduceBEq, reduceAdd, reduceSub]); (all_goals skip))
          · exact ⟨Nat.zero_le _, rfl⟩
          · exact weak rfl (by (first | (refine ⟨.eq rfl rfl, ?_⟩; (iterate 17 refine ⟨.eq rfl rfl, ?_⟩); exact trivial) | (refine ⟨.eq rfl rfl, ?_⟩; (iterate 4 refine ⟨.eq rfl rfl, ?_⟩); exact trivial))) (by (first | (refine ⟨.box _ rfl ?_, ?_⟩; refine ⟨.eq rfl rfl, ?_⟩; exact trivial; refine ⟨.box _ rfl ?_, ?_⟩; (iterate 2 refine ⟨.eq rfl rfl, ?_⟩); (iterate 2 exact trivial)) | (refine ⟨.box _ rfl ?_, ?_⟩; (iterate 2 refine ⟨.eq rfl rfl, ?_⟩); (iterate 2 exact trivial)))) rfl
          rintro j ⟨hj, han⟩
          by_cases hlj : j < cl.length
          · obtain ⟨d1, d2⟩ := hf.hcl _ (List.getElem_mem hlj)
            have heq := equal_fn cl[j] mp (by omega) (by omega)
            have hns := any_snoc (p := fun d => decide (canon d = canon mp)) hlj
            rw [han, Bool.false_or] at hns
            by_cases he : canon cl[j] = canon mp
            · rw [decide_eq_true he] at heq
              have hy : symC cl sym cl[k] = true := by rw [hsy]; exact any_yes hlj (decide_eq_true he)
              rw [hy] at has
              clear hsy
              (refine zq ?_; refine zs ?_; refine zd ?_; refine zo ?_; refine zc ?_; refine AW.skip ?_; refine thenD_n ?_; refine zo ?_; refine AW.block ?_; refine zq ?_; (conv => rhs; simp only [Nf.all, Nat.reduceBEq, reduceAdd, reduceSub]); refine zm ?_; refine za ?_; refine zd ?_; refine zq ?_; (conv => rhs; simp only [Nf.all, Nat.reduceBEq, reduceAdd, reduceSub]); refine AOps.move_clo rfl rfl rfl ?_; (iterate 2 refine zm ?_); (focus ((with_reducible apply AOps.index_map); (iterate 7 exact rfl); rotate_left; omega)); refine zr ?_; (with_reducible apply AOps.inline (hf := Try.func32)); (with_reducible assumption); (iterate 10 exact rfl); intro g_ hro_ hwt_; (conv => rhs; simp only [Nf.all, Nat.reduceBEq, reduceAdd, reduceSub]); refine zq ?_; refine za ?_; refine zd ?_; refine zq ?_; (conv => rhs; simp only [Nf.all, Nat.reduceBEq, reduceAdd, reduceSub]); refine zm ?_; refine zb ?_; (with_reducible apply AOps.call (heq)); (repeat (first | exact .nil | (refine .cons rfl ?_ ?_; (first | exact .pv _ | exact .own _ _ _ _ rfl | exact .nil _ | exact .any _ | exact .rptr _ | (refine .aggL ?_; repeat (first | exact .nil | (refine .cons ?_ ?_; (first | exact .pv _ | exact .own _ _ _ _ rfl | exact .nil _)))))))); exact rfl; exact rfl; exact (fun h_ => by cases h_); refine za ?_; refine zd ?_; refine AW.ret ?_; refine inlEnds_rpv rfl rfl ?_; (conv => rhs; simp only [Nf.all, Nat.reduceBEq, reduceAdd, reduceSub]); refine zd ?_; refine AW.cond_lt rfl rfl ?_; refine zq ?_; refine zm ?_; refine za ?_; refine zd ?_; refine AW.ret ?_; refine inBlockD_ret ?_; (iterate 2 refine thenD_ret ?_); refine inBlockD_ret ?_; refine thenD_ret ?_; refine inlEnds_rpv rfl rfl ?_; (conv => rhs; simp only [Nf.all, Nat.reduceBEq, reduceAdd, reduceSub]); refine AOps.geq rfl rfl rfl rfl rfl ?_; refine za ?_; refine zd ?_; refine AW.ret ?_; refine inlEnds_rpv rfl rfl ?_; (conv => rhs; simp only [Nf.all, Nat.reduceBEq, reduceAdd, reduceSub]); refine AOps.notD rfl rfl rfl ?_; refine zd ?_; refine AW.cond_lf rfl rfl ?_; refine AW.skip ?_; refine inBlockD_n ?_; refine thenD_n ?_; refine AW.region ?_; (conv => rhs; simp only [Nf.all, Nat.reduceBEq, reduceAdd, reduceSub]); refine AOps.add rfl rfl rfl rfl rfl (by omega) ?_; refine zm ?_; refine zd ?_)
              exact ⟨k + 1, ⟨by omega, has⟩, by omega, weak rfl (by (first | (refine ⟨.eq rfl rfl, ?_⟩; (iterate 17 refine ⟨.eq rfl rfl, ?_⟩); exact trivial) | (refine ⟨.eq rfl rfl, ?_⟩; (iterate 4 refine ⟨.eq rfl rfl, ?_⟩); exact trivial))) (by (first | (refine ⟨.box _ rfl ?_, ?_⟩; refine ⟨.eq rfl rfl, ?_⟩; exact trivial; refine ⟨.box _ rfl ?_, ?_⟩; (iterate 2 refine ⟨.eq rfl rfl, ?_⟩); (iterate 2 exact trivial)) | (refine ⟨.box _ rfl ?_, ?_⟩; (iterate 2 refine ⟨.eq rfl rfl, ?_⟩); (iterate 2 exact trivial)))) rfl⟩
            · rw [decide_eq_false he] at heq hns
              clear hsy
              (refine zq ?_; refine zs ?_; refine zd ?_; refine zo ?_; refine zc ?_; refine AW.skip ?_; refine thenD_n ?_; refine zo ?_; refine AW.block ?_; refine zq ?_; (conv => rhs; simp only [Nf.all, Nat.reduceBEq, reduceAdd, reduceSub]); refine zm ?_; refine za ?_; refine zd ?_; refine zq ?_; (conv => rhs; simp only [Nf.all, Nat.reduceBEq, reduceAdd, reduceSub]); refine AOps.move_clo rfl rfl rfl ?_; (iterate 2 refine zm ?_); (focus ((with_reducible apply AOps.index_map); (iterate 7 exact rfl); rotate_left; omega)); refine zr ?_; (with_reducible apply AOps.inline (hf := Try.func32)); (with_reducible assumption); (iterate 10 exact rfl); intro g_ hro_ hwt_; (conv => rhs; simp only [Nf.all, Nat.reduceBEq, reduceAdd, reduceSub]); refine zq ?_; refine za ?_; refine zd ?_; refine zq ?_; (conv => rhs; simp only [Nf.all, Nat.reduceBEq, reduceAdd, reduceSub]); refine zm ?_; refine zb ?_; (with_reducible apply AOps.call (heq)); (repeat (first | exact .nil | (refine .cons rfl ?_ ?_; (first | exact .pv _ | exact .own _ _ _ _ rfl | exact .nil _ | exact .any _ | exact .rptr _ | (refine .aggL ?_; repeat (first | exact .nil | (refine .cons ?_ ?_; (first | exact .pv _ | exact .own _ _ _ _ rfl | exact .nil _)))))))); exact rfl; exact rfl; exact (fun h_ => by cases h_); refine za ?_; refine zd ?_; refine AW.ret ?_; refine inlEnds_rpv rfl rfl ?_; (conv => rhs; simp only [Nf.all, Nat.reduceBEq, reduceAdd, reduceSub]); refine zd ?_; refine AW.cond_lf rfl rfl ?_; refine AW.skip ?_; refine inBlockD_n ?_; refine thenD_n ?_; refine AW.region ?_; refine AOps.add rfl rfl rfl rfl rfl (by omega) ?_; refine zm ?_; refine zd ?_)
              exact ⟨j + 1, ⟨by omega, hns⟩, by omega, weak rfl (by (first | (refine ⟨.eq rfl rfl, ?_⟩; (iterate 17 refine ⟨.eq rfl rfl, ?_⟩); exact trivial) | (refine ⟨.eq rfl rfl, ?_⟩; (iterate 4 refine ⟨.eq rfl rfl, ?_⟩); exact trivial))) (by (first | (refine ⟨.box _ rfl ?_, ?_⟩; refine ⟨.eq rfl rfl, ?_⟩; exact trivial; refine ⟨.box _ rfl ?_, ?_⟩; (iterate 2 refine ⟨.eq rfl rfl, ?_⟩); (iterate 2 exact trivial)) | (refine ⟨.box _ rfl ?_, ?_⟩; (iterate 2 refine ⟨.eq rfl rfl, ?_⟩); (iterate 2 exact trivial)))) rfl⟩
          · rw [take_all (l := cl) (by omega)] at han
            rw [han] at hsy
            rw [all_no hlk hsy]
            (refine zq ?_; refine zs ?_; refine zd ?_; refine zo ?_; refine zk ?_; refine AW.exit ?_; (iterate 2 refine thenD_exit ?_); refine inBlockD_exit ?_; refine thenD_n ?_; refine zq ?_; (conv => rhs; simp only [Nf.all, Nat.reduceBEq, reduceAdd, reduceSub]); refine za ?_; refine zd ?_; refine AW.ret ?_; refine inlEnds_rpv rfl rfl ?_; (conv => rhs; simp only [Nf.all, Nat.reduceBEq, reduceAdd, reduceSub]); refine AOps.geq rfl rfl rfl rfl rfl ?_; refine za ?_; refine zd ?_; refine AW.ret ?_; refine inlEnds_rpv rfl rfl ?_; (conv => rhs; simp only [Nf.all, Nat.reduceBEq, reduceAdd, reduceSub]); refine AOps.notD rfl rfl rfl ?_; refine zd ?_; refine AW.cond_lt rfl rfl ?_; refine zq ?_; (conv => rhs; simp only [Nf.all, Nat.reduceBEq, reduceAdd, reduceSub]); refine za ?_; refine zd ?_; refine AW.ret ?_; refine inBlockD_ret ?_; (iterate 2 refine thenD_ret ?_); refine inBlockD_ret ?_; refine thenD_ret ?_)
            (apply ends_ret; (exact Res.one (.tmp rfl rfl)); (refine Le.litB ?_; (rfl)))
        · rw [take_all (l := cl) (by omega)] at hal
          rw [hal]
          (refine zq ?_; refine zs ?_; refine zd ?_; refine zo ?_; refine zk ?_; refine AW.exit ?_; (iterate 2 refine thenD_exit ?_); refine inBlockD_exit ?_; refine thenD_n ?_; refine zq ?_; (conv => rhs; simp only [Nf.all, Nat.reduceBEq, reduceAdd, reduceSub]); refine za ?_; refine zd ?_; refine AW.ret ?_)
          (apply ends_ret; (exact Res.one (.tmp rfl rfl)); (refine Le.litB ?_; (rfl)))
  · have hr : symOk vars cl sym = false := by unfold symOk; rw [decide_eq_false e1]; simp
    rw [hr]
    refine Fn.enter (n := 62) Try.func17 rfl rfl rfl rfl rfl (by decide) fun g hro_ hwt_ => ?_; (try (conv => rhs; simp only [Nf.all, Nat.reduceBEq, reduceAdd, reduceSub]))
    (refine zq ?_; refine AOps.box rfl rfl rfl rfl ?_; (conv => rhs; simp only [Nf.all, Nat.reduceBEq, reduceAdd, reduceSub]); refine za ?_; refine zd ?_; refine zo ?_; refine zq ?_; (conv => rhs; simp only [Nf.all, Nat.reduceBEq, reduceAdd, reduceSub]); refine zm ?_; refine zn ?_; refine AOps.fieldAddrN 24 0 0 rfl rfl rfl rfl ?_; refine zb ?_; refine AOps.neq rfl rfl rfl rfl rfl ?_; refine zm ?_; (iterate 5 refine AOps.guardFn rfl rfl rfl rfl rfl rfl (by with_reducible assumption) ?_); refine AOps.pickT_pv rfl rfl (by with_reducible assumption) rfl rfl rfl rfl ?_; refine zd ?_; refine AW.cond_lt rfl rfl ?_; refine zq ?_; (conv => rhs; simp only [Nf.all, Nat.reduceBEq, reduceAdd, reduceSub]); refine za ?_; refine zd ?_; refine AW.ret ?_; refine thenD_ret ?_)
    (apply ends_ret; (exact Res.one (.tmp rfl rfl)); (refine Le.litB ?_; (rfl)))
end Go.Ab
