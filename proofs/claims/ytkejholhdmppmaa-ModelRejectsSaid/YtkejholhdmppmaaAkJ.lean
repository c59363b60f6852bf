/- Chapter 05's small functions, and their like in chapter 07's reference: sums, sorts, scopes. -/
import Derived.Test.YtkejholhdmppmaaAkA
import Derived.Test.YtkejholhdmppmaaAbL2
import Derived.Test.YtkejholhdmppmaaAbL3
set_option linter.unusedSimpArgs false
set_option linter.unusedVariables false
namespace Go.Ab
open Go Go.Proofs
open Nat (reduceAdd reduceSub)
set_option maxRecDepth 20000
set_option maxHeartbeats 4000000
abbrev SortM := ByteArray × Bool
structure FieldM where
  name : ByteArray
  sorts : List Int
  var : Bool
structure SlV where
  a : Option Addr
  l : Nat
  c : Nat
def encSo (s : SortM) : List PV := [.lit (.string s.1), .lit (.bool s.2)]
def encF (f : FieldM) : List PV := [.lit (.string f.name), ints f.sorts, .lit (.bool f.var)]
structure SpecM where
  sorts : List SortM
  fields : List FieldM
  preds : SlV
  facts : SlV
abbrev slv (s : SlV) : AV := .pv (.lit (.slice s.a s.l s.c))
abbrev spc (s : SpecM) : AV := .agg [.pv (.slice 2 (s.sorts.map encSo)), .pv (.slice 3 (s.fields.map encF)), slv s.preds, slv s.facts]
abbrev scp (at' : List Int) (st : Int) : AV := .agg [.pv (ints at'), litI st]
/-- a scope's sizes: few and small. -/
def SmA (at' : List Int) : Prop := at'.length ≤ 1000 ∧ ∀ x ∈ at', 0 ≤ x ∧ x ≤ 1000
theorem sum_snoc (l : List Int) {k : Nat} (hk : k < l.length) : (l.take (k + 1)).sum = (l.take k).sum + l[k] := by
  rw [take_succ_get hk, List.sum_append]; simp
theorem sum_bound : ∀ (l : List Int), (∀ x ∈ l, 0 ≤ x ∧ x ≤ 1000) → 0 ≤ l.sum ∧ l.sum ≤ 1000 * l.length := by
  intro l
  induction l with
  | nil => intro _; simp
  | cons x l ih =>
    intro h
    have h1 := h x (by simp)
    have h2 := ih fun y hy => h y (by simp [hy])
    simp only [List.sum_cons, List.length_cons]
    omega
theorem SmA.take {at' : List Int} (h : SmA at') (k : Nat) : 0 ≤ (at'.take k).sum ∧ (at'.take k).sum ≤ 1000000 := by
  have h1 := sum_bound (at'.take k) fun x hx => h.2 x (List.mem_of_mem_take hx)
  have h2 := List.length_take_le k at'
  have h3 : (at'.take k).length ≤ 1000 := by have := h.1; simp; omega
  omega
attribute [local irreducible] AW AOps thenD inBlockD AR iterEnds roundEndsN inlEnds noGotoD
theorem sum_fn (l : List Int) (h : SmA l) : Fn Try.prog 26 [.pv (ints l)] (litI l.sum) := by
  have hb := h.take
  have hle := h.1
  refine Fn.enter (n := 17) Try.func26 rfl rfl rfl rfl rfl (by decide) fun g hro_ hwt_ => ?_; (try (conv => rhs; simp only [Nf.all, Nat.reduceBEq, reduceAdd, reduceSub]))
  (refine zq ?_; refine za ?_; refine zd ?_; refine zq ?_; (conv => rhs; simp only [Nf.all, Nat.reduceBEq, reduceAdd, reduceSub]); refine za ?_; refine zd ?_; refine zo ?_; refine zq ?_; (conv => rhs; simp only [Nf.all, Nat.reduceBEq, reduceAdd, reduceSub]); refine zm ?_; refine zn ?_; refine zm ?_; refine zd ?_; refine AW.block ?_)
  refine AW.loop (fun (k : Nat) => { n := 17, env := [(3, litI (l.take k).sum), (6, .pv (ints l)), (7, litI l.length), (8, litI k)], objs := [], nx := 0 }) (fun k => k ≤ l.length) (fun k => l.length - k) 0 ?_ ?_ ?_
  · exact Nat.zero_le _
  · exact weak rfl (by (refine ⟨.eq rfl rfl, ?_⟩; (iterate 3 refine ⟨.eq rfl rfl, ?_⟩); exact trivial)) (by (exact trivial)) rfl
  rintro k hk
  by_cases hlt : k < l.length
  · have hs := sum_snoc l hlt
    have h1 := hb k
    have h2 := hb (k + 1)
    (refine zq ?_; refine zs ?_; refine zd ?_; refine zo ?_; refine zc ?_; refine AW.skip ?_; refine thenD_n ?_; refine zo ?_; refine AW.block ?_; refine zq ?_; (conv => rhs; simp only [Nf.all, Nat.reduceBEq, reduceAdd, reduceSub]); (focus ((with_reducible apply AOps.index_map); (iterate 7 exact rfl); rotate_left; omega)); refine zr ?_; refine za ?_; refine zd ?_; refine AW.region ?_; (conv => rhs; simp only [Nf.all, Nat.reduceBEq, reduceAdd, reduceSub]); (iterate 2 refine zm ?_); refine AOps.add rfl rfl rfl rfl rfl (by omega) ?_; refine za ?_; refine AOps.nil ?_; refine inBlockD_n ?_; refine thenD_n ?_; refine AW.region ?_; (conv => rhs; simp only [Nf.all, Nat.reduceBEq, reduceAdd, reduceSub]); refine AOps.add rfl rfl rfl rfl rfl (by omega) ?_; refine zm ?_; refine zd ?_)
    exact ⟨k + 1, by omega, by omega, weak rfl (by (refine ⟨.intE (by first | with_reducible rfl | (rw [hs])), ?_⟩; refine ⟨.pvE (by first | with_reducible rfl | (rw [hs])), ?_⟩; refine ⟨.intE (by first | with_reducible rfl | (rw [hs])), ?_⟩; refine ⟨.eq rfl rfl, ?_⟩; exact trivial)) (by (exact trivial)) rfl⟩
  · rw [take_all (l := l) (by omega)]
    (refine zq ?_; refine zs ?_; refine zd ?_; refine zo ?_; refine zk ?_; refine AW.exit ?_; (iterate 2 refine thenD_exit ?_); refine inBlockD_exit ?_; refine thenD_n ?_; refine zq ?_; (conv => rhs; simp only [Nf.all, Nat.reduceBEq, reduceAdd, reduceSub]); refine zm ?_; refine za ?_; refine zd ?_; refine AW.ret ?_)
    (apply ends_ret; (exact Res.one (.tmp rfl rfl)); (refine Le.litI ?_; (rfl)))
theorem atoms_fn (at' : List Int) (st : Int) (h : SmA at') : Fn Try.prog 7 [scp at' st] (litI at'.sum) := by
  refine Fn.enter (n := 6) Try.func7 rfl rfl rfl rfl rfl (by decide) fun g hro_ hwt_ => ?_; (try (conv => rhs; simp only [Nf.all, Nat.reduceBEq, reduceAdd, reduceSub]))
  (refine zq ?_; refine AOps.box rfl rfl rfl rfl ?_; (conv => rhs; simp only [Nf.all, Nat.reduceBEq, reduceAdd, reduceSub]); refine za ?_; refine zd ?_; refine zq ?_; (conv => rhs; simp only [Nf.all, Nat.reduceBEq, reduceAdd, reduceSub]); refine AOps.fieldAddrN 30 0 0 rfl rfl rfl rfl ?_; refine zb ?_; refine AOps.call (sum_fn at' h) (.cons rfl (.pv _) .nil) rfl rfl (fun h_ => by cases h_) ?_; refine za ?_; refine zd ?_; refine AW.ret ?_)
  (apply ends_ret; (exact Res.one (.tmp rfl rfl)); (refine Le.litI ?_; (rfl)))
theorem first_fn (at' : List Int) (st : Int) (s : Nat) (h : SmA at') (hs : s ≤ at'.length) : Fn Try.prog 9 [scp at' st, litI s] (litI (at'.take s).sum) := by
  have h2 : SmA (at'.take s) := ⟨by have := h.1; simp; omega, fun x hx => h.2 x (List.mem_of_mem_take hx)⟩
  refine Fn.enter (n := 10) Try.func9 rfl rfl rfl rfl rfl (by decide) fun g hro_ hwt_ => ?_; (try (conv => rhs; simp only [Nf.all, Nat.reduceBEq, reduceAdd, reduceSub]))
  (refine zq ?_; refine AOps.box rfl rfl rfl rfl ?_; (conv => rhs; simp only [Nf.all, Nat.reduceBEq, reduceAdd, reduceSub]); refine za ?_; refine zd ?_; refine zq ?_; (conv => rhs; simp only [Nf.all, Nat.reduceBEq, reduceAdd, reduceSub]); refine AOps.fieldAddrN 30 0 0 rfl rfl rfl rfl ?_; refine zb ?_; refine zm ?_; refine AOps.slice_to rfl rfl rfl rfl rfl rfl rfl (by omega) ?_; refine AOps.call (sum_fn (at'.take s) h2) (.cons rfl (.pv _) .nil) rfl rfl (fun h_ => by cases h_) ?_; refine za ?_; refine zd ?_; refine AW.ret ?_)
  (apply ends_ret; (exact Res.one (.tmp rfl rfl)); (refine Le.litI ?_; (rfl)))
theorem within_fn (n a b : Int) : Fn Try.prog 29 [litI n, litI a, litI b] (litB (decide (a ≤ n ∧ n ≤ b))) := by
  by_cases h1 : a ≤ n
  · by_cases h2 : n ≤ b
    · rw [decide_eq_true ⟨h1, h2⟩]
      refine Fn.enter (n := 15) Try.func29 rfl rfl rfl rfl rfl (by decide) fun g hro_ hwt_ => ?_; (try (conv => rhs; simp only [Nf.all, Nat.reduceBEq, reduceAdd, reduceSub]))
      (refine zq ?_; refine za ?_; refine zd ?_; refine zq ?_; (conv => rhs; simp only [Nf.all, Nat.reduceBEq, reduceAdd, reduceSub]); (iterate 2 refine zm ?_); refine AOps.geq rfl rfl rfl rfl rfl ?_; refine zm ?_; refine AOps.guardTy rfl rfl rfl rfl rfl rfl (by with_reducible assumption) ?_; refine zm ?_; refine AOps.guardTy rfl rfl rfl rfl rfl rfl (by with_reducible assumption) ?_; refine zm ?_; refine AOps.guardTy rfl rfl rfl rfl rfl rfl (by with_reducible assumption) ?_; refine AOps.leq rfl rfl rfl rfl rfl ?_; refine AOps.pickT_pv rfl rfl (by with_reducible assumption) rfl rfl rfl rfl ?_; refine za ?_; refine zd ?_; refine AW.ret ?_)
      (apply ends_ret; (exact Res.one (.tmp rfl rfl)); (refine Le.litB ?_; (first | rfl | exact decide_eq_true (by omega))))
    · rw [decide_eq_false (fun h => h2 h.2)]
      refine Fn.enter (n := 15) Try.func29 rfl rfl rfl rfl rfl (by decide) fun g hro_ hwt_ => ?_; (try (conv => rhs; simp only [Nf.all, Nat.reduceBEq, reduceAdd, reduceSub]))
      (refine zq ?_; refine za ?_; refine zd ?_; refine zq ?_; (conv => rhs; simp only [Nf.all, Nat.reduceBEq, reduceAdd, reduceSub]); (iterate 2 refine zm ?_); refine AOps.geq rfl rfl rfl rfl rfl ?_; refine zm ?_; refine AOps.guardTy rfl rfl rfl rfl rfl rfl (by with_reducible assumption) ?_; refine zm ?_; refine AOps.guardTy rfl rfl rfl rfl rfl rfl (by with_reducible assumption) ?_; refine zm ?_; refine AOps.guardTy rfl rfl rfl rfl rfl rfl (by with_reducible assumption) ?_; refine AOps.leq rfl rfl rfl rfl rfl ?_; refine AOps.pickT_pv rfl rfl (by with_reducible assumption) rfl rfl rfl rfl ?_; refine za ?_; refine zd ?_; refine AW.ret ?_)
      (apply ends_ret; (exact Res.one (.tmp rfl rfl)); (refine Le.litB ?_; (first | rfl | exact decide_eq_false (by omega))))
  · rw [decide_eq_false (fun h => h1 h.1)]
    refine Fn.enter (n := 15) Try.func29 rfl rfl rfl rfl rfl (by decide) fun g hro_ hwt_ => ?_; (try (conv => rhs; simp only [Nf.all, Nat.reduceBEq, reduceAdd, reduceSub]))
    (refine zq ?_; refine za ?_; refine zd ?_; refine zq ?_; (conv => rhs; simp only [Nf.all, Nat.reduceBEq, reduceAdd, reduceSub]); (iterate 2 refine zm ?_); refine AOps.geq rfl rfl rfl rfl rfl ?_; refine zm ?_; (iterate 3 refine AOps.guardTn rfl rfl rfl rfl rfl rfl (by with_reducible assumption) ?_); refine AOps.pickF_pv rfl rfl (by with_reducible assumption) rfl rfl rfl rfl ?_; refine za ?_; refine zd ?_; refine AW.ret ?_)
    (apply ends_ret; (exact Res.one (.tmp rfl rfl)); (refine Le.litB ?_; (first | rfl | exact decide_eq_false (by omega))))
def sizesOk (at' : List Int) : Bool := at'.all fun n => decide (1 ≤ n ∧ n ≤ 5)
/-- a scope that fits k sorts. -/
def scopeOk (k : Nat) (at' : List Int) (st : Int) : Bool := decide (k ≤ 4 ∧ at'.length = k ∧ 1 ≤ st ∧ st ≤ 4) && sizesOk at' && decide (at'.sum ≤ 12)
theorem sizesOk_no {at' : List Int} {k : Nat} (hk : k < at'.length) (h : ¬ (1 ≤ at'[k] ∧ at'[k] ≤ 5)) : sizesOk at' = false := by
  unfold sizesOk; rw [List.all_eq_false]; exact ⟨_, List.getElem_mem hk, by simpa using h⟩
theorem sizesOk_all {at' : List Int} : sizesOk at' = true ↔ ∀ x ∈ at', 1 ≤ x ∧ x ≤ 5 := by
  unfold sizesOk; rw [List.all_eq_true]; simp
theorem sizesOk_sm {at' : List Int} (h : sizesOk at' = true) (hl : at'.length ≤ 1000) : SmA at' := ⟨hl, fun x hx => by have := sizesOk_all.1 h x hx; omega⟩
theorem sizes_step {at' : List Int} {k : Nat} (h : sizesOk (at'.take k) = true) (hk : k < at'.length) (hx : 1 ≤ at'[k] ∧ at'[k] ≤ 5) : sizesOk (at'.take (k + 1)) = true := by
  rw [sizesOk_all] at *
  rw [take_succ_get hk]
  intro x hm
  rcases List.mem_append.1 hm with hm | hm
  · exact h x hm
  · simp at hm; subst hm; exact hx
theorem uValid_fn (s : SpecM) (at' : List Int) (st : Int) : Fn Try.prog 21 [spc s, scp at' st] (litB (scopeOk s.sorts.length at' st)) := by
  obtain ⟨so, fs, p, q⟩ := s
  simp only
  by_cases h1 : so.length ≤ 4 ∧ at'.length = so.length ∧ 1 ≤ st ∧ st ≤ 4
  · have he : scopeOk so.length at' st = (sizesOk at' && decide (at'.sum ≤ 12)) := by unfold scopeOk; rw [decide_eq_true h1, Bool.true_and]
    rw [he]
    have hw := within_fn st 1 4
    rw [decide_eq_true ⟨h1.2.2.1, h1.2.2.2⟩] at hw
    refine Fn.enter (n := 40) Try.func21 rfl rfl rfl rfl rfl (by decide) fun g hro_ hwt_ => ?_; (try (conv => rhs; simp only [Nf.all, Nat.reduceBEq, reduceAdd, reduceSub]))
    (refine zq ?_; refine AOps.box rfl rfl rfl rfl ?_; (conv => rhs; simp only [Nf.all, Nat.reduceBEq, reduceAdd, reduceSub]); refine AOps.box rfl rfl rfl rfl ?_; (conv => rhs; simp only [Nf.all, Nat.reduceBEq, reduceAdd, reduceSub]); refine za ?_; refine zd ?_; refine zo ?_; refine zq ?_; (conv => rhs; simp only [Nf.all, Nat.reduceBEq, reduceAdd, reduceSub]); refine AOps.fieldAddrN 27 0 0 rfl rfl rfl rfl ?_; refine zb ?_; refine zn ?_; refine AOps.gtr rfl rfl rfl rfl rfl ?_; refine zm ?_; refine zy ?_; refine AOps.fieldAddrN 30 0 0 rfl rfl rfl rfl ?_; refine zy ?_; refine zb ?_; refine zy ?_; refine zn ?_; refine zy ?_; refine AOps.fieldAddrN 27 0 0 rfl rfl rfl rfl ?_; refine zy ?_; refine zb ?_; refine zy ?_; refine zn ?_; refine zy ?_; refine AOps.neq rfl rfl rfl rfl rfl ?_; refine AOps.pickF_pv rfl rfl (by first | omega | decide) rfl rfl rfl rfl ?_; refine zm ?_; refine zy ?_; refine AOps.fieldAddrN 30 1 1 rfl rfl rfl rfl ?_; refine zy ?_; refine zb ?_; refine zy ?_; refine AOps.call (hw) (.cons rfl (.pv _) (.cons rfl (.pv _) (.cons rfl (.pv _) .nil))) rfl rfl (fun h_ => by cases h_) ?_; refine zy ?_; refine AOps.not rfl rfl rfl ?_; refine AOps.pickF_pv rfl rfl (by first | omega | decide) rfl rfl rfl rfl ?_; refine zd ?_; refine AW.cond_lf rfl rfl ?_; refine AW.skip ?_; refine thenD_n ?_; refine zo ?_; refine zq ?_; (conv => rhs; simp only [Nf.all, Nat.reduceBEq, reduceAdd, reduceSub]); refine AOps.fieldAddrN 30 0 0 rfl rfl rfl rfl ?_; refine zb ?_; refine zn ?_; refine zm ?_; refine zd ?_; refine AW.block ?_)
    refine AW.loop (fun (k : Nat) => { n := 40, env := [(3, .ptr 1 0), (27, .pv (ints at')), (28, litI at'.length), (29, litI k)], objs := [(1, some (.box [.pv (ints at'), litI st]))], nx := 2 }) (fun k => k ≤ at'.length ∧ sizesOk (at'.take k) = true) (fun k => at'.length - k) 0 ?_ ?_ ?_
    · exact ⟨Nat.zero_le _, rfl⟩
    · exact weak rfl (by (refine ⟨.eq rfl rfl, ?_⟩; (iterate 3 refine ⟨.eq rfl rfl, ?_⟩); exact trivial)) (by (refine ⟨.box _ rfl ?_, ?_⟩; (iterate 2 refine ⟨.eq rfl rfl, ?_⟩); (iterate 2 exact trivial))) rfl
    rintro k ⟨hk, hok⟩
    by_cases hlt : k < at'.length
    · have hw2 := within_fn at'[k] 1 5
      by_cases h2 : 1 ≤ at'[k] ∧ at'[k] ≤ 5
      · rw [decide_eq_true h2] at hw2
        (refine zq ?_; refine zs ?_; refine zd ?_; refine zo ?_; refine zc ?_; refine AW.skip ?_; refine thenD_n ?_; refine zo ?_; refine AW.block ?_; refine zq ?_; (conv => rhs; simp only [Nf.all, Nat.reduceBEq, reduceAdd, reduceSub]); (focus ((with_reducible apply AOps.index_map); (iterate 7 exact rfl); rotate_left; omega)); refine zr ?_; refine za ?_; refine zd ?_; refine zq ?_; (conv => rhs; simp only [Nf.all, Nat.reduceBEq, reduceAdd, reduceSub]); refine zm ?_; refine AOps.call (hw2) (.cons rfl (.pv _) (.cons rfl (.pv _) (.cons rfl (.pv _) .nil))) rfl rfl (fun h_ => by cases h_) ?_; refine AOps.not rfl rfl rfl ?_; refine zd ?_; refine AW.cond_lf rfl rfl ?_; refine AW.skip ?_; refine inBlockD_n ?_; refine thenD_n ?_; refine AW.region ?_; (conv => rhs; simp only [Nf.all, Nat.reduceBEq, reduceAdd, reduceSub]); refine AOps.add rfl rfl rfl rfl rfl (by omega) ?_; refine zm ?_; refine zd ?_)
        exact ⟨k + 1, ⟨by omega, sizes_step hok hlt h2⟩, by omega, weak rfl (by (refine ⟨.eq rfl rfl, ?_⟩; (iterate 3 refine ⟨.eq rfl rfl, ?_⟩); exact trivial)) (by (refine ⟨.box _ rfl ?_, ?_⟩; (iterate 2 refine ⟨.eq rfl rfl, ?_⟩); (iterate 2 exact trivial))) rfl⟩
      · rw [decide_eq_false h2] at hw2
        have hz := sizesOk_no hlt h2
        (refine zq ?_; refine zs ?_; refine zd ?_; refine zo ?_; refine zc ?_; refine AW.skip ?_; refine thenD_n ?_; refine zo ?_; refine AW.block ?_; refine zq ?_; (conv => rhs; simp only [Nf.all, Nat.reduceBEq, reduceAdd, reduceSub]); (focus ((with_reducible apply AOps.index_map); (iterate 7 exact rfl); rotate_left; omega)); refine zr ?_; refine za ?_; refine zd ?_; refine zq ?_; (conv => rhs; simp only [Nf.all, Nat.reduceBEq, reduceAdd, reduceSub]); refine zm ?_; refine AOps.call (hw2) (.cons rfl (.pv _) (.cons rfl (.pv _) (.cons rfl (.pv _) .nil))) rfl rfl (fun h_ => by cases h_) ?_; refine AOps.not rfl rfl rfl ?_; refine zd ?_; refine AW.cond_lt rfl rfl ?_; refine zq ?_; (conv => rhs; simp only [Nf.all, Nat.reduceBEq, reduceAdd, reduceSub]); refine za ?_; refine zd ?_; refine AW.ret ?_; refine inBlockD_ret ?_; (iterate 2 refine thenD_ret ?_); refine inBlockD_ret ?_; refine thenD_ret ?_)
        (apply ends_ret; (exact Res.one (.tmp rfl rfl)); (refine Le.litB ?_; (rw [hz]; rfl)))
    · rw [take_all (l := at') (by omega)] at hok
      have ha := atoms_fn at' st (sizesOk_sm hok (by omega))
      rw [hok, Bool.true_and]
      (refine zq ?_; refine zs ?_; refine zd ?_; refine zo ?_; refine zk ?_; refine AW.exit ?_; (iterate 2 refine thenD_exit ?_); refine inBlockD_exit ?_; refine thenD_n ?_; refine zq ?_; (conv => rhs; simp only [Nf.all, Nat.reduceBEq, reduceAdd, reduceSub]); refine AOps.load_ball rfl rfl rfl rfl rfl ?_; (conv => rhs; simp only [Nf.all, Nat.reduceBEq, reduceAdd, reduceSub]); refine AOps.call (ha) (.cons rfl (.aggL (.cons (.pv _) (.cons (.pv _) .nil))) .nil) rfl rfl (fun h_ => by cases h_) ?_; refine AOps.leq rfl rfl rfl rfl rfl ?_; refine za ?_; refine zd ?_; refine AW.ret ?_)
      (apply ends_ret; (exact Res.one (.tmp rfl rfl)); (refine Le.litB ?_; (rfl)))
  · have he : scopeOk so.length at' st = false := by unfold scopeOk; rw [decide_eq_false h1]; rfl
    rw [he]
    have hw := within_fn st 1 4
    by_cases h3 : 1 ≤ st ∧ st ≤ 4
    · rw [decide_eq_true h3] at hw
      refine Fn.enter (n := 40) Try.func21 rfl rfl rfl rfl rfl (by decide) fun g hro_ hwt_ => ?_; (try (conv => rhs; simp only [Nf.all, Nat.reduceBEq, reduceAdd, reduceSub]))
      (refine zq ?_; refine AOps.box rfl rfl rfl rfl ?_; (conv => rhs; simp only [Nf.all, Nat.reduceBEq, reduceAdd, reduceSub]); refine AOps.box rfl rfl rfl rfl ?_; (conv => rhs; simp only [Nf.all, Nat.reduceBEq, reduceAdd, reduceSub]); refine za ?_; refine zd ?_; refine zo ?_; refine zq ?_; (conv => rhs; simp only [Nf.all, Nat.reduceBEq, reduceAdd, reduceSub]); refine AOps.fieldAddrN 27 0 0 rfl rfl rfl rfl ?_; refine zb ?_; refine zn ?_; refine AOps.gtr rfl rfl rfl rfl rfl ?_; refine zm ?_; (focus ((with_reducible apply AOps.guardF); (iterate 6 exact rfl); all_goals intro hc_)); refine AOps.fieldAddrN 30 0 0 rfl rfl rfl rfl ?_; refine AOps.guardFy rfl rfl rfl rfl rfl rfl (by with_reducible assumption) ?_; refine zb ?_; refine AOps.guardFy rfl rfl rfl rfl rfl rfl (by with_reducible assumption) ?_; refine zn ?_; refine AOps.guardFy rfl rfl rfl rfl rfl rfl (by with_reducible assumption) ?_; refine AOps.fieldAddrN 27 0 0 rfl rfl rfl rfl ?_; refine AOps.guardFy rfl rfl rfl rfl rfl rfl (by with_reducible assumption) ?_; refine zb ?_; refine AOps.guardFy rfl rfl rfl rfl rfl rfl (by with_reducible assumption) ?_; refine zn ?_; refine AOps.guardFy rfl rfl rfl rfl rfl rfl (by with_reducible assumption) ?_; refine AOps.neq rfl rfl rfl rfl rfl ?_; refine AOps.pickF_pv rfl rfl (by with_reducible assumption) rfl rfl rfl rfl ?_; refine zm ?_; (iterate 4 refine AOps.guardFn rfl rfl rfl rfl rfl rfl (by first | omega | decide) ?_); refine AOps.pickT_pv rfl rfl (by first | omega | decide) rfl rfl rfl rfl ?_; refine zd ?_; refine AW.cond_lt rfl rfl ?_; refine zq ?_; (conv => rhs; simp only [Nf.all, Nat.reduceBEq, reduceAdd, reduceSub]); refine za ?_; refine zd ?_; refine AW.ret ?_; refine thenD_ret ?_; (all_goals skip); rotate_left; (iterate 6 refine AOps.guardFn rfl rfl rfl rfl rfl rfl (by with_reducible assumption) ?_); refine AOps.pickT_pv rfl rfl (by with_reducible assumption) rfl rfl rfl rfl ?_; refine zm ?_; (iterate 4 refine AOps.guard_lf rfl rfl rfl rfl rfl rfl rfl ?_); refine AOps.pick_lt rfl rfl rfl rfl rfl rfl ?_; refine zd ?_; refine AW.cond_lt rfl rfl ?_; refine zq ?_; (conv => rhs; simp only [Nf.all, Nat.reduceBEq, reduceAdd, reduceSub]); refine za ?_; refine zd ?_; refine AW.ret ?_; refine thenD_ret ?_; (all_goals skip); rotate_left)
      all_goals (apply ends_ret; (exact Res.one (.tmp rfl rfl)); (refine Le.litB ?_; (first | rfl | exact decide_eq_false (by omega))))
    · rw [decide_eq_false h3] at hw
      refine Fn.enter (n := 40) Try.func21 rfl rfl rfl rfl rfl (by decide) fun g hro_ hwt_ => ?_; (try (conv => rhs; simp only [Nf.all, Nat.reduceBEq, reduceAdd, reduceSub]))
      (refine zq ?_; refine AOps.box rfl rfl rfl rfl ?_; (conv => rhs; simp only [Nf.all, Nat.reduceBEq, reduceAdd, reduceSub]); refine AOps.box rfl rfl rfl rfl ?_; (conv => rhs; simp only [Nf.all, Nat.reduceBEq, reduceAdd, reduceSub]); refine za ?_; refine zd ?_; refine zo ?_; refine zq ?_; (conv => rhs; simp only [Nf.all, Nat.reduceBEq, reduceAdd, reduceSub]); refine AOps.fieldAddrN 27 0 0 rfl rfl rfl rfl ?_; refine zb ?_; refine zn ?_; refine AOps.gtr rfl rfl rfl rfl rfl ?_; refine zm ?_; (focus ((with_reducible apply AOps.guardF); (iterate 6 exact rfl); all_goals intro hc_)); refine AOps.fieldAddrN 30 0 0 rfl rfl rfl rfl ?_; refine AOps.guardFy rfl rfl rfl rfl rfl rfl (by with_reducible assumption) ?_; refine zb ?_; refine AOps.guardFy rfl rfl rfl rfl rfl rfl (by with_reducible assumption) ?_; refine zn ?_; refine AOps.guardFy rfl rfl rfl rfl rfl rfl (by with_reducible assumption) ?_; refine AOps.fieldAddrN 27 0 0 rfl rfl rfl rfl ?_; refine AOps.guardFy rfl rfl rfl rfl rfl rfl (by with_reducible assumption) ?_; refine zb ?_; refine AOps.guardFy rfl rfl rfl rfl rfl rfl (by with_reducible assumption) ?_; refine zn ?_; refine AOps.guardFy rfl rfl rfl rfl rfl rfl (by with_reducible assumption) ?_; refine AOps.neq rfl rfl rfl rfl rfl ?_; refine AOps.pickF_pv rfl rfl (by with_reducible assumption) rfl rfl rfl rfl ?_; refine zm ?_; (focus ((with_reducible apply AOps.guardF); (iterate 6 exact rfl); all_goals intro hc_)); refine AOps.fieldAddrN 30 1 1 rfl rfl rfl rfl ?_; refine AOps.guardFy rfl rfl rfl rfl rfl rfl (by with_reducible assumption) ?_; refine zb ?_; refine AOps.guardFy rfl rfl rfl rfl rfl rfl (by with_reducible assumption) ?_; refine AOps.call (hw) (.cons rfl (.pv _) (.cons rfl (.pv _) (.cons rfl (.pv _) .nil))) rfl rfl (fun h_ => by cases h_) ?_; refine AOps.guardFy rfl rfl rfl rfl rfl rfl (by with_reducible assumption) ?_; refine AOps.not rfl rfl rfl ?_; refine AOps.pickF_pv rfl rfl (by with_reducible assumption) rfl rfl rfl rfl ?_; refine zd ?_; refine AW.cond_lt rfl rfl ?_; refine zq ?_; (conv => rhs; simp only [Nf.all, Nat.reduceBEq, reduceAdd, reduceSub]); refine za ?_; refine zd ?_; refine AW.ret ?_; refine thenD_ret ?_; (all_goals skip); rotate_left; (iterate 3 refine AOps.guardFn rfl rfl rfl rfl rfl rfl (by with_reducible assumption) ?_); refine AOps.pickT_pv rfl rfl (by with_reducible assumption) rfl rfl rfl rfl ?_; refine zd ?_; refine AW.cond_lt rfl rfl ?_; refine zq ?_; (conv => rhs; simp only [Nf.all, Nat.reduceBEq, reduceAdd, reduceSub]); refine za ?_; refine zd ?_; refine AW.ret ?_; refine thenD_ret ?_; (all_goals skip); rotate_left; (iterate 6 refine AOps.guardFn rfl rfl rfl rfl rfl rfl (by with_reducible assumption) ?_); refine AOps.pickT_pv rfl rfl (by with_reducible assumption) rfl rfl rfl rfl ?_; refine zm ?_; (iterate 4 refine AOps.guard_lf rfl rfl rfl rfl rfl rfl rfl ?_); refine AOps.pick_lt rfl rfl rfl rfl rfl rfl ?_; refine zd ?_; refine AW.cond_lt rfl rfl ?_; refine zq ?_; (conv => rhs; simp only [Nf.all, Nat.reduceBEq, reduceAdd, reduceSub]); refine za ?_; refine zd ?_; refine AW.ret ?_; refine thenD_ret ?_; (all_goals skip); rotate_left)
      all_goals (apply ends_ret; (exact Res.one (.tmp rfl rfl)); (refine Le.litB ?_; (first | rfl | exact decide_eq_false (by omega))))
end Go.Ab
