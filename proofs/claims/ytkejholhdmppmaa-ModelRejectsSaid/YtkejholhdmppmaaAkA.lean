/- Chapters 05 to 07: relations, states, models as data; equality, the next state. -/
import Derived.Test.YtkejholhdmppmaaRows
import Derived.Test.YtkejholhdmppmaaAbL2
set_option linter.unusedSimpArgs false
set_option linter.unusedVariables false
namespace Go.Ab
open Go Go.Proofs
open Nat (reduceAdd reduceSub)
set_option maxRecDepth 20000
set_option maxHeartbeats 2000000
attribute [local irreducible] AW AOps thenD inBlockD
theorem take_succ_get {α : Type} {l : List α} {k : Nat} (hk : k < l.length) : l.take (k + 1) = l.take k ++ [l[k]] := List.take_succ_eq_append_getElem hk
theorem take_all {α : Type} {l : List α} {k : Nat} (h : ¬ (k : Int) < (l.length : Int)) : l.take k = l := List.take_of_length_le (by omega)
abbrev RelM := Int × List Int
def encR (r : RelM) : List PV := [.lit (.int .i64 r.1), ints r.2]
abbrev rels (l : List RelM) : PV := .slice 2 (l.map encR)
abbrev stts (l : List (List RelM)) : PV := .slice 1 (l.map fun s => [rels s])
abbrev relA (r : RelM) : AV := .agg [litI r.1, .pv (ints r.2)]
structure ModM where
  atoms : List Int
  steps : Int
  states : List (List RelM)
  loop : Int
deriving DecidableEq
abbrev mdl (m : ModM) : AV := .agg [.pv (ints m.atoms), litI m.steps, .pv (stts m.states), litI m.loop]
/-- equal so far, then wholly. -/
theorem eq_at_end {α : Type} {a b : List α} {k : Nat} (hl : a.length = b.length) (h : a.take k = b.take k) (hk : ¬ k < a.length) : a = b := by
  rwa [List.take_of_length_le (by omega), List.take_of_length_le (by omega)] at h
theorem eq_step {α : Type} {a b : List α} {k : Nat} (h : a.take k = b.take k) (ha : k < a.length) (hb : k < b.length) (e : a[k] = b[k]) : a.take (k + 1) = b.take (k + 1) := by
  rw [take_succ_get ha, take_succ_get hb, h, e]
theorem sEqual_fn (a b : List Int) : Fn Try.prog 30 [.pv (ints a), .pv (ints b)] (litB (decide (a = b))) := by
  refine Fn.enter (n := 26) Try.func30 rfl rfl rfl rfl rfl (by decide) fun g hro_ hwt_ => ?_; (try (conv => rhs; simp only [Nf.all, Nat.reduceBEq, reduceAdd, reduceSub]))
  refine AW.len_map 0 rfl fun hlen => ?_
  by_cases hab : a.length = b.length
  · (refine zq ?_; refine za ?_; refine zd ?_; refine zo ?_; refine zq ?_; (conv => rhs; simp only [Nf.all, Nat.reduceBEq, reduceAdd, reduceSub]); refine zm ?_; refine zn ?_; refine zm ?_; refine zn ?_; refine AOps.neq rfl rfl rfl rfl rfl ?_; refine zd ?_; refine zk ?_; refine AW.skip ?_; refine thenD_n ?_; refine zo ?_; refine zq ?_; (conv => rhs; simp only [Nf.all, Nat.reduceBEq, reduceAdd, reduceSub]); refine zm ?_; refine zn ?_; refine zm ?_; refine zd ?_; refine AW.block ?_)
    refine AW.loop (fun (k : Nat) => { n := 26, env := [(0, .pv (ints a)), (1, .pv (ints b)), (12, litI a.length), (13, litI k)], objs := [], nx := 0 }) (fun k => k ≤ a.length ∧ a.take k = b.take k) (fun k => a.length - k) 0 ?_ ?_ ?_
    · simp
    · exact weak rfl (by (refine ⟨.eq rfl rfl, ?_⟩; (iterate 3 refine ⟨.eq rfl rfl, ?_⟩); exact trivial)) (by (exact trivial)) rfl
    rintro k ⟨hk, hno⟩
    by_cases hlt : k < a.length
    · have hlt2 : k < b.length := by omega
      (refine zq ?_; refine zs ?_; refine zd ?_; refine zo ?_; refine zc ?_; refine AW.skip ?_; refine thenD_n ?_; refine zo ?_; refine AW.block ?_; refine zq ?_; (conv => rhs; simp only [Nf.all, Nat.reduceBEq, reduceAdd, reduceSub]); refine zm ?_; refine za ?_; refine zd ?_; refine zo ?_; refine AW.regionQ rfl rfl (by kernel_rfl) (by with_reducible assumption) ?_; (iterate 2 refine zm ?_); (focus ((with_reducible apply AOps.index_map); (iterate 7 exact rfl); rotate_left; omega)); refine zr ?_; (iterate 2 refine zm ?_); (focus ((with_reducible apply AOps.index_map); (iterate 7 exact rfl); rotate_left; omega)); refine zr ?_; refine AOps.neq rfl rfl rfl rfl rfl ?_; refine zd ?_; (focus ((with_reducible apply AW.condD); exact rfl; exact rfl; all_goals intro hc_)); refine zq ?_; (conv => rhs; simp only [Nf.all, Nat.reduceBEq, reduceAdd, reduceSub]); refine za ?_; refine zd ?_; refine AW.ret ?_; refine inBlockD_ret ?_; (iterate 2 refine thenD_ret ?_); refine inBlockD_ret ?_; refine thenD_ret ?_; (all_goals skip); rotate_left; refine AW.skip ?_; refine inBlockD_n ?_; refine thenD_n ?_; refine AW.region ?_; (conv => rhs; simp only [Nf.all, Nat.reduceBEq, reduceAdd, reduceSub]); refine AOps.add rfl rfl rfl rfl rfl (by omega) ?_; refine zm ?_; refine zd ?_; (all_goals skip); rotate_left)
      · have hne : ¬ a = b := by rintro rfl; exact hc_ rfl
        (apply ends_ret; (exact Res.one (.tmp rfl rfl)); (refine Le.litB ?_; (rw [eq_comm, decide_eq_false_iff_not]; exact hne)))
      · exact ⟨k + 1, ⟨by omega, eq_step hno hlt hlt2 (Decidable.not_not.1 hc_)⟩, by omega, weak rfl (by (refine ⟨.eq rfl rfl, ?_⟩; (iterate 3 refine ⟨.eq rfl rfl, ?_⟩); exact trivial)) (by (exact trivial)) rfl⟩
    · have he : a = b := eq_at_end hab hno hlt
      (refine zq ?_; refine zs ?_; refine zd ?_; refine zo ?_; refine zk ?_; refine AW.exit ?_; (iterate 2 refine thenD_exit ?_); refine inBlockD_exit ?_; refine thenD_n ?_; refine zq ?_; (conv => rhs; simp only [Nf.all, Nat.reduceBEq, reduceAdd, reduceSub]); refine za ?_; refine zd ?_; refine AW.ret ?_)
      (apply ends_ret; (exact Res.one (.tmp rfl rfl)); (refine Le.litB ?_; (rw [eq_comm, decide_eq_true_iff]; exact he)))
  · have hne : ¬ a = b := by rintro rfl; exact hab rfl
    (refine zq ?_; refine za ?_; refine zd ?_; refine zo ?_; refine zq ?_; (conv => rhs; simp only [Nf.all, Nat.reduceBEq, reduceAdd, reduceSub]); refine zm ?_; refine zn ?_; refine zm ?_; refine zn ?_; refine AOps.neq rfl rfl rfl rfl rfl ?_; refine zd ?_; refine zc ?_; refine zq ?_; (conv => rhs; simp only [Nf.all, Nat.reduceBEq, reduceAdd, reduceSub]); refine za ?_; refine zd ?_; refine AW.ret ?_; refine thenD_ret ?_)
    (apply ends_ret; (exact Res.one (.tmp rfl rfl)); (refine Le.litB ?_; (rw [eq_comm, decide_eq_false_iff_not]; exact hne)))
theorem relEqual_fn (a b : RelM) : Fn Try.prog 25 [relA a, relA b] (litB (decide (a = b))) := by
  obtain ⟨a1, a2⟩ := a
  obtain ⟨b1, b2⟩ := b
  have hs := sEqual_fn a2 b2
  by_cases h1 : a1 = b1
  · have he : decide ((a1, a2) = (b1, b2)) = decide (a2 = b2) := by simp [h1]
    rw [he]
    refine Fn.enter (n := 17) Try.func25 rfl rfl rfl rfl rfl (by decide) fun g hro_ hwt_ => ?_; (try (conv => rhs; simp only [Nf.all, Nat.reduceBEq, reduceAdd, reduceSub]))
    (refine zq ?_; refine AOps.box rfl rfl rfl rfl ?_; (conv => rhs; simp only [Nf.all, Nat.reduceBEq, reduceAdd, reduceSub]); refine AOps.box rfl rfl rfl rfl ?_; (conv => rhs; simp only [Nf.all, Nat.reduceBEq, reduceAdd, reduceSub]); refine za ?_; refine zd ?_; refine zq ?_; (conv => rhs; simp only [Nf.all, Nat.reduceBEq, reduceAdd, reduceSub]); refine AOps.fieldAddrN 42 0 0 rfl rfl rfl rfl ?_; refine zb ?_; refine AOps.fieldAddrN 42 0 0 rfl rfl rfl rfl ?_; refine zb ?_; refine AOps.eql rfl rfl rfl rfl rfl ?_; refine zm ?_; refine AOps.guardTy rfl rfl rfl rfl rfl rfl (by with_reducible assumption) ?_; refine AOps.fieldAddrN 42 1 1 rfl rfl rfl rfl ?_; refine AOps.guardTy rfl rfl rfl rfl rfl rfl (by with_reducible assumption) ?_; refine zb ?_; refine AOps.guardTy rfl rfl rfl rfl rfl rfl (by with_reducible assumption) ?_; refine AOps.fieldAddrN 42 1 1 rfl rfl rfl rfl ?_; refine AOps.guardTy rfl rfl rfl rfl rfl rfl (by with_reducible assumption) ?_; refine zb ?_; refine AOps.guardTy rfl rfl rfl rfl rfl rfl (by with_reducible assumption) ?_; refine AOps.call (hs) (.cons rfl (.pv _) (.cons rfl (.pv _) .nil)) rfl rfl (fun h_ => by cases h_) ?_; refine AOps.pickT_pv rfl rfl (by with_reducible assumption) rfl rfl rfl rfl ?_; refine za ?_; refine zd ?_; refine AW.ret ?_)
    (apply ends_ret; (exact Res.one (.tmp rfl rfl)); (refine Le.litB ?_; (rfl)))
  · have he : decide ((a1, a2) = (b1, b2)) = false := by simp [h1]
    rw [he]
    refine Fn.enter (n := 17) Try.func25 rfl rfl rfl rfl rfl (by decide) fun g hro_ hwt_ => ?_; (try (conv => rhs; simp only [Nf.all, Nat.reduceBEq, reduceAdd, reduceSub]))
    (refine zq ?_; refine AOps.box rfl rfl rfl rfl ?_; (conv => rhs; simp only [Nf.all, Nat.reduceBEq, reduceAdd, reduceSub]); refine AOps.box rfl rfl rfl rfl ?_; (conv => rhs; simp only [Nf.all, Nat.reduceBEq, reduceAdd, reduceSub]); refine za ?_; refine zd ?_; refine zq ?_; (conv => rhs; simp only [Nf.all, Nat.reduceBEq, reduceAdd, reduceSub]); refine AOps.fieldAddrN 42 0 0 rfl rfl rfl rfl ?_; refine zb ?_; refine AOps.fieldAddrN 42 0 0 rfl rfl rfl rfl ?_; refine zb ?_; refine AOps.eql rfl rfl rfl rfl rfl ?_; refine zm ?_; (iterate 5 refine AOps.guardTn rfl rfl rfl rfl rfl rfl (by with_reducible assumption) ?_); refine AOps.pickF_pv rfl rfl (by with_reducible assumption) rfl rfl rfl rfl ?_; refine za ?_; refine zd ?_; refine AW.ret ?_)
    (apply ends_ret; (exact Res.one (.tmp rfl rfl)); (refine Le.litB ?_; (rfl)))
theorem rEqual_fn (a b : RelM) : Fn Try.prog 37 [relA a, relA b] (litB (decide (a = b))) := by
  obtain ⟨c, a⟩ := a
  obtain ⟨d, b⟩ := b
  by_cases h1 : c = d
  · subst h1
    have he : decide ((c, a) = (c, b)) = decide (a = b) := by simp
    rw [he]
    refine Fn.enter (n := 38) Try.func37 rfl rfl rfl rfl rfl (by decide) fun g hro_ hwt_ => ?_; (try (conv => rhs; simp only [Nf.all, Nat.reduceBEq, reduceAdd, reduceSub]))
    refine AW.len_agg 0 1 rfl rfl fun hlen => ?_
    simp only at hlen
    by_cases hab : a.length = b.length
    · (refine zq ?_; refine AOps.box rfl rfl rfl rfl ?_; (conv => rhs; simp only [Nf.all, Nat.reduceBEq, reduceAdd, reduceSub]); refine AOps.box rfl rfl rfl rfl ?_; (conv => rhs; simp only [Nf.all, Nat.reduceBEq, reduceAdd, reduceSub]); refine za ?_; refine zd ?_; refine zo ?_; refine zq ?_; (conv => rhs; simp only [Nf.all, Nat.reduceBEq, reduceAdd, reduceSub]); refine AOps.fieldAddrN 42 0 0 rfl rfl rfl rfl ?_; refine zb ?_; refine AOps.fieldAddrN 42 0 0 rfl rfl rfl rfl ?_; refine zb ?_; refine AOps.neq rfl rfl rfl rfl rfl ?_; refine zm ?_; refine zy ?_; refine AOps.fieldAddrN 42 1 1 rfl rfl rfl rfl ?_; refine zy ?_; refine zb ?_; refine zy ?_; refine zn ?_; refine zy ?_; refine AOps.fieldAddrN 42 1 1 rfl rfl rfl rfl ?_; refine zy ?_; refine zb ?_; refine zy ?_; refine zn ?_; refine zy ?_; refine AOps.neq rfl rfl rfl rfl rfl ?_; refine AOps.pickF_pv rfl rfl (by first | omega | decide) rfl rfl rfl rfl ?_; refine zd ?_; refine zk ?_; refine AW.skip ?_; refine thenD_n ?_; refine zo ?_; refine zq ?_; (conv => rhs; simp only [Nf.all, Nat.reduceBEq, reduceAdd, reduceSub]); refine za ?_; refine zd ?_; refine AW.block ?_)
      refine AW.loop (fun (k : Nat) => { n := 38, env := [(2, .ptr 0 0), (3, .ptr 1 0), (5, litI k)], objs := [(0, some (.box [litI c, .pv (ints a)])), (1, some (.box [litI c, .pv (ints b)]))], nx := 2 }) (fun k => k ≤ a.length ∧ a.take k = b.take k) (fun k => a.length - k) 0 ?_ ?_ ?_
      · simp
      · exact weak rfl (by (refine ⟨.eq rfl rfl, ?_⟩; (iterate 2 refine ⟨.eq rfl rfl, ?_⟩); exact trivial)) (by (refine ⟨.box _ rfl ?_, ?_⟩; (iterate 2 refine ⟨.eq rfl rfl, ?_⟩); exact trivial; refine ⟨.box _ rfl ?_, ?_⟩; (iterate 2 refine ⟨.eq rfl rfl, ?_⟩); (iterate 2 exact trivial))) rfl
      rintro k ⟨hk, hno⟩
      by_cases hlt : k < a.length
      · have hlt2 : k < b.length := by omega
        (refine zo ?_; refine zq ?_; refine zm ?_; refine AOps.fieldAddrN 42 1 1 rfl rfl rfl rfl ?_; refine zb ?_; refine zn ?_; refine zs ?_; refine zd ?_; refine zc ?_; refine AW.skip ?_; refine thenD_n ?_; refine zo ?_; refine AW.block ?_; refine zo ?_; refine AW.regionQ rfl rfl (by kernel_rfl) (by with_reducible assumption) ?_; refine AOps.fieldAddrN 42 1 1 rfl rfl rfl rfl ?_; refine zb ?_; refine zm ?_; (focus ((with_reducible apply AOps.index_map); (iterate 7 exact rfl); rotate_left; omega)); refine zr ?_; refine AOps.fieldAddrN 42 1 1 rfl rfl rfl rfl ?_; refine zb ?_; refine zm ?_; (focus ((with_reducible apply AOps.index_map); (iterate 7 exact rfl); rotate_left; omega)); refine zr ?_; refine AOps.neq rfl rfl rfl rfl rfl ?_; refine zd ?_; (focus ((with_reducible apply AW.condD); exact rfl; exact rfl; all_goals intro hc_)); refine zq ?_; (conv => rhs; simp only [Nf.all, Nat.reduceBEq, reduceAdd, reduceSub]); refine za ?_; refine zd ?_; refine AW.ret ?_; refine inBlockD_ret ?_; (iterate 2 refine thenD_ret ?_); refine inBlockD_ret ?_; refine thenD_ret ?_; (all_goals skip); rotate_left; refine AW.skip ?_; refine inBlockD_n ?_; refine thenD_n ?_; refine AW.region ?_; (conv => rhs; simp only [Nf.all, Nat.reduceBEq, reduceAdd, reduceSub]); refine zm ?_; refine AOps.add rfl rfl rfl rfl rfl (by omega) ?_; refine za ?_; refine zd ?_; (all_goals skip); rotate_left)
        · have hne : ¬ a = b := by rintro rfl; exact hc_ rfl
          (apply ends_ret; (exact Res.one (.tmp rfl rfl)); (refine Le.litB ?_; (rw [eq_comm, decide_eq_false_iff_not]; exact hne)))
        · exact ⟨k + 1, ⟨by omega, eq_step hno hlt hlt2 (Decidable.not_not.1 hc_)⟩, by omega, weak rfl (by (refine ⟨.eq rfl rfl, ?_⟩; (iterate 2 refine ⟨.eq rfl rfl, ?_⟩); exact trivial)) (by (refine ⟨.box _ rfl ?_, ?_⟩; (iterate 2 refine ⟨.eq rfl rfl, ?_⟩); exact trivial; refine ⟨.box _ rfl ?_, ?_⟩; (iterate 2 refine ⟨.eq rfl rfl, ?_⟩); (iterate 2 exact trivial))) rfl⟩
      · have he : a = b := eq_at_end hab hno hlt
        (refine zo ?_; refine zq ?_; refine zm ?_; refine AOps.fieldAddrN 42 1 1 rfl rfl rfl rfl ?_; refine zb ?_; refine zn ?_; refine zs ?_; refine zd ?_; refine zk ?_; refine AW.exit ?_; (iterate 2 refine thenD_exit ?_); refine inBlockD_exit ?_; refine thenD_n ?_; refine zq ?_; (conv => rhs; simp only [Nf.all, Nat.reduceBEq, reduceAdd, reduceSub]); refine za ?_; refine zd ?_; refine AW.ret ?_)
        (apply ends_ret; (exact Res.one (.tmp rfl rfl)); (refine Le.litB ?_; (rw [eq_comm, decide_eq_true_iff]; exact he)))
    · have hne : ¬ a = b := by rintro rfl; exact hab rfl
      (refine zq ?_; refine AOps.box rfl rfl rfl rfl ?_; (conv => rhs; simp only [Nf.all, Nat.reduceBEq, reduceAdd, reduceSub]); refine AOps.box rfl rfl rfl rfl ?_; (conv => rhs; simp only [Nf.all, Nat.reduceBEq, reduceAdd, reduceSub]); refine za ?_; refine zd ?_; refine zo ?_; refine zq ?_; (conv => rhs; simp only [Nf.all, Nat.reduceBEq, reduceAdd, reduceSub]); refine AOps.fieldAddrN 42 0 0 rfl rfl rfl rfl ?_; refine zb ?_; refine AOps.fieldAddrN 42 0 0 rfl rfl rfl rfl ?_; refine zb ?_; refine AOps.neq rfl rfl rfl rfl rfl ?_; refine zm ?_; refine zy ?_; refine AOps.fieldAddrN 42 1 1 rfl rfl rfl rfl ?_; refine zy ?_; refine zb ?_; refine zy ?_; refine zn ?_; refine zy ?_; refine AOps.fieldAddrN 42 1 1 rfl rfl rfl rfl ?_; refine zy ?_; refine zb ?_; refine zy ?_; refine zn ?_; refine zy ?_; refine AOps.neq rfl rfl rfl rfl rfl ?_; refine AOps.pickF_pv rfl rfl (by first | omega | decide) rfl rfl rfl rfl ?_; refine zd ?_; refine zc ?_; refine zq ?_; (conv => rhs; simp only [Nf.all, Nat.reduceBEq, reduceAdd, reduceSub]); refine za ?_; refine zd ?_; refine AW.ret ?_; refine thenD_ret ?_)
      (apply ends_ret; (exact Res.one (.tmp rfl rfl)); (refine Le.litB ?_; (rw [eq_comm, decide_eq_false_iff_not]; exact hne)))
  · have he : decide ((c, a) = (d, b)) = false := by simp [h1]
    rw [he]
    refine Fn.enter (n := 38) Try.func37 rfl rfl rfl rfl rfl (by decide) fun g hro_ hwt_ => ?_; (try (conv => rhs; simp only [Nf.all, Nat.reduceBEq, reduceAdd, reduceSub]))
    (refine zq ?_; refine AOps.box rfl rfl rfl rfl ?_; (conv => rhs; simp only [Nf.all, Nat.reduceBEq, reduceAdd, reduceSub]); refine AOps.box rfl rfl rfl rfl ?_; (conv => rhs; simp only [Nf.all, Nat.reduceBEq, reduceAdd, reduceSub]); refine za ?_; refine zd ?_; refine zo ?_; refine zq ?_; (conv => rhs; simp only [Nf.all, Nat.reduceBEq, reduceAdd, reduceSub]); refine AOps.fieldAddrN 42 0 0 rfl rfl rfl rfl ?_; refine zb ?_; refine AOps.fieldAddrN 42 0 0 rfl rfl rfl rfl ?_; refine zb ?_; refine AOps.neq rfl rfl rfl rfl rfl ?_; refine zm ?_; (iterate 7 refine AOps.guardFn rfl rfl rfl rfl rfl rfl (by with_reducible assumption) ?_); refine AOps.pickT_pv rfl rfl (by with_reducible assumption) rfl rfl rfl rfl ?_; refine zd ?_; refine AW.cond_lt rfl rfl ?_; refine zq ?_; (conv => rhs; simp only [Nf.all, Nat.reduceBEq, reduceAdd, reduceSub]); refine za ?_; refine zd ?_; refine AW.ret ?_; refine thenD_ret ?_)
    (apply ends_ret; (exact Res.one (.tmp rfl rfl)); (refine Le.litB ?_; (rfl)))
end Go.Ab
