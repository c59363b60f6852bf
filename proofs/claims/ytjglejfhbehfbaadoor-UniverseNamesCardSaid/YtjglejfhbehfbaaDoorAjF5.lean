/- Chapter 05: the laws' own functions: scopes made of raw data, specifications that are too large. -/
import Derived.Test.YtjglejfhbehfbaaDoorAjF4
import Derived.Test.YtjglejfhbehfbaaDoorAbL2
set_option linter.unusedSimpArgs false
set_option linter.unusedVariables false
namespace Go.Ab
open Go Go.Proofs
open Nat (reduceAdd reduceSub)
set_option maxRecDepth 20000
set_option maxHeartbeats 4000000
def encU (x : Int) : List PV := [.lit (.int .u8 x)]
def encUs (l : List Int) : List PV := [.slice 1 (l.map encU)]
abbrev bytes (l : List Int) : PV := .slice 1 (l.map encU)
def longS (l : List SortM) : Bool := l.any fun q => decide (100 < q.1.size)
def greatB (so : List SortM) : Bool := decide (20 < so.length) || longS so
theorem longS_drop {l : List SortM} {k : Nat} (hk : k < l.length) : longS (l.drop k) = (decide (100 < l[k].1.size) || longS (l.drop (k + 1))) := by
  rw [List.drop_eq_getElem_cons hk]; rfl
theorem great_no {so : List SortM} (h : greatB so = false) : so.length ≤ 20 ∧ ∀ q ∈ so, q.1.size ≤ 1000 := by
  unfold greatB longS at h
  rw [Bool.or_eq_false_iff, decide_eq_false_iff_not, List.any_eq_false] at h
  exact ⟨by omega, fun q hq => by have := h.2 q hq; simp at this; omega⟩
attribute [local irreducible] AW AOps thenD inBlockD AR iterEnds roundEndsN inlEnds noGotoD longS
theorem great_fn (s : SpecM) : Fn Tryd.prog 10 [spc s] (litB (greatB s.sorts)) := by
  obtain ⟨so, fs, p, q⟩ := s
  simp only
  unfold greatB
  by_cases h1 : 20 < so.length
  · rw [decide_eq_true h1, Bool.true_or]
    refine Fn.enter (n := 23) Tryd.func10 rfl rfl rfl rfl rfl (by decide) fun g hro_ hwt_ => ?_; (try (conv => rhs; simp only [Nf.all, Nat.reduceBEq, reduceAdd, reduceSub]))
    (refine zq ?_; refine AOps.box rfl rfl rfl rfl ?_; (conv => rhs; simp only [Nf.all, Nat.reduceBEq, reduceAdd, reduceSub]); refine za ?_; refine zd ?_; refine zo ?_; refine zq ?_; (conv => rhs; simp only [Nf.all, Nat.reduceBEq, reduceAdd, reduceSub]); refine AOps.fieldAddrN 27 0 0 rfl rfl rfl rfl ?_; refine zb ?_; refine zn ?_; refine AOps.gtr rfl rfl rfl rfl rfl ?_; refine zd ?_; refine zc ?_; refine zq ?_; (conv => rhs; simp only [Nf.all, Nat.reduceBEq, reduceAdd, reduceSub]); refine za ?_; refine zd ?_; refine AW.ret ?_; refine thenD_ret ?_)
    (apply ends_ret; (exact Res.one (.tmp rfl rfl)); (refine Le.litB ?_; (rfl)))
  · rw [decide_eq_false h1, Bool.false_or]
    refine Fn.enter (n := 23) Tryd.func10 rfl rfl rfl rfl rfl (by decide) fun g hro_ hwt_ => ?_; (try (conv => rhs; simp only [Nf.all, Nat.reduceBEq, reduceAdd, reduceSub]))
    (refine zq ?_; refine AOps.box rfl rfl rfl rfl ?_; (conv => rhs; simp only [Nf.all, Nat.reduceBEq, reduceAdd, reduceSub]); refine za ?_; refine zd ?_; refine zo ?_; refine zq ?_; (conv => rhs; simp only [Nf.all, Nat.reduceBEq, reduceAdd, reduceSub]); refine AOps.fieldAddrN 27 0 0 rfl rfl rfl rfl ?_; refine zb ?_; refine zn ?_; refine AOps.gtr rfl rfl rfl rfl rfl ?_; refine zd ?_; refine zk ?_; refine AW.skip ?_; refine thenD_n ?_; refine zo ?_; refine zq ?_; (conv => rhs; simp only [Nf.all, Nat.reduceBEq, reduceAdd, reduceSub]); refine za ?_; refine zd ?_; refine AW.block ?_)
    ((conv => rhs; simp only [Nf.all, Nat.reduceBEq, reduceAdd, reduceSub]); apply AW.loopR [1] [0] (fun i : Nat => ([(3, litI i)] : List (Nat × AV))) (fun i : Nat => ([] : List (Nat × Option Ob))) (fun i : Nat => i ≤ so.length ∧ longS so = longS (so.drop i)) (fun i : Nat => so.length - i) (0); (conv => lhs; simp only [Nf.lpR, Nf.all, Nat.reduceBEq, reduceAdd, reduceSub]); (all_goals skip))
    · exact ⟨Nat.zero_le _, rfl⟩
    · exact weak rfl (by (refine ⟨.eq rfl rfl, ?_⟩; refine ⟨.eq rfl rfl, ?_⟩; exact trivial)) (by (refine ⟨.box _ rfl ?_, ?_⟩; (iterate 4 refine ⟨.eq rfl rfl, ?_⟩); (iterate 2 exact trivial))) rfl
    rintro i ⟨hi, he⟩
    by_cases hlt : i < so.length
    · rw [longS_drop hlt] at he
      by_cases h2 : 100 < so[i].1.size
      · rw [decide_eq_true h2, Bool.true_or] at he
        (refine zo ?_; refine zq ?_; refine zm ?_; refine AOps.fieldAddrN 27 0 0 rfl rfl rfl rfl ?_; refine zb ?_; refine zn ?_; refine zs ?_; refine zd ?_; refine zc ?_; refine AW.skip ?_; refine thenD_n ?_; refine zo ?_; refine AW.block ?_; refine zq ?_; (conv => rhs; simp only [Nf.all, Nat.reduceBEq, reduceAdd, reduceSub]); refine AOps.fieldAddrN 27 0 0 rfl rfl rfl rfl ?_; refine zb ?_; refine zm ?_; (focus ((with_reducible apply AOps.index_map); (iterate 7 exact rfl); rotate_left; omega)); refine AOps.fieldAddr_rN 53 0 0 1 rfl rfl rfl rfl ?_; (conv => rhs; simp only [Nf.all, Nat.reduceBEq, reduceAdd, reduceSub]); refine zr ?_; refine AOps.len_str rfl rfl rfl rfl ?_; refine AOps.gtr rfl rfl rfl rfl rfl ?_; refine zd ?_; refine zc ?_; refine zq ?_; (conv => rhs; simp only [Nf.all, Nat.reduceBEq, reduceAdd, reduceSub]); refine za ?_; refine zd ?_; refine AW.ret ?_; refine inBlockD_ret ?_; (iterate 2 refine thenD_ret ?_); refine inBlockD_ret ?_; refine thenD_ret ?_)
        (apply ends_ret; (exact Res.one (.tmp rfl rfl)); (refine Le.litB ?_; (exact he.symm)))
      · rw [decide_eq_false h2, Bool.false_or] at he
        (refine zo ?_; refine zq ?_; refine zm ?_; refine AOps.fieldAddrN 27 0 0 rfl rfl rfl rfl ?_; refine zb ?_; refine zn ?_; refine zs ?_; refine zd ?_; refine zc ?_; refine AW.skip ?_; refine thenD_n ?_; refine zo ?_; refine AW.block ?_; refine zq ?_; (conv => rhs; simp only [Nf.all, Nat.reduceBEq, reduceAdd, reduceSub]); refine AOps.fieldAddrN 27 0 0 rfl rfl rfl rfl ?_; refine zb ?_; refine zm ?_; (focus ((with_reducible apply AOps.index_map); (iterate 7 exact rfl); rotate_left; omega)); refine AOps.fieldAddr_rN 53 0 0 1 rfl rfl rfl rfl ?_; (conv => rhs; simp only [Nf.all, Nat.reduceBEq, reduceAdd, reduceSub]); refine zr ?_; refine AOps.len_str rfl rfl rfl rfl ?_; refine AOps.gtr rfl rfl rfl rfl rfl ?_; refine zd ?_; refine zk ?_; refine AW.skip ?_; refine inBlockD_n ?_; refine thenD_n ?_; refine AW.region ?_; (conv => rhs; simp only [Nf.all, Nat.reduceBEq, reduceAdd, reduceSub]); refine zm ?_; refine AOps.add rfl rfl rfl rfl rfl (by omega) ?_; refine za ?_; refine zd ?_)
        exact ⟨i + 1, ⟨by omega, he⟩, by omega, weak rfl (by (refine ⟨.eq rfl rfl, ?_⟩; refine ⟨.eq rfl rfl, ?_⟩; exact trivial)) (by (refine ⟨.box _ rfl ?_, ?_⟩; (iterate 4 refine ⟨.eq rfl rfl, ?_⟩); (iterate 2 exact trivial))) rfl⟩
    · rw [List.drop_eq_nil_of_le (by omega)] at he
      have he : longS so = false := by rw [he]; unfold longS; rfl
      (refine zo ?_; refine zq ?_; refine zm ?_; refine AOps.fieldAddrN 27 0 0 rfl rfl rfl rfl ?_; refine zb ?_; refine zn ?_; refine zs ?_; refine zd ?_; refine zk ?_; refine AW.exit ?_; (iterate 2 refine thenD_exit ?_); refine inBlockD_exit ?_; refine thenD_n ?_; refine zq ?_; (conv => rhs; simp only [Nf.all, Nat.reduceBEq, reduceAdd, reduceSub]); refine za ?_; refine zd ?_; refine AW.ret ?_)
      (apply ends_ret; (exact Res.one (.tmp rfl rfl)); (refine Le.litB ?_; (exact he.symm)))
theorem scope5_fn (raw : List Int) (s : Int) (hr : ∀ x ∈ raw, 0 ≤ x ∧ x ≤ 255) (hs : 0 ≤ s ∧ s ≤ 255) : Fn Tryd.prog 13 [.pv (bytes raw), .pv (.lit (.int .u8 s))] (scp (scL raw) (s % 4 + 1)) := by
  have hm1 := Int.emod_nonneg s (by omega : (4 : Int) ≠ 0)
  have hm2 := Int.emod_lt_of_pos s (by omega : (0 : Int) < 4)
  unfold scL
  refine Fn.enter (n := 47) Tryd.func13 rfl rfl rfl rfl rfl (by decide) fun g hro_ hwt_ => ?_; (try (conv => rhs; simp only [Nf.all, Nat.reduceBEq, reduceAdd, reduceSub]))
  (refine zq ?_; refine AOps.allocN' rfl rfl rfl rfl ?_; (conv => rhs; simp only [Nf.all, Nat.reduceBEq, reduceAdd, reduceSub]); refine zd ?_; refine zq ?_; refine zm ?_; refine AOps.convI rfl rfl rfl rfl rfl (by omega) ?_; refine AOps.remE rfl rfl rfl rfl rfl (by omega) ?_; refine AOps.add rfl rfl rfl rfl rfl (by omega) ?_; refine AOps.buildN 30 [1] rfl rfl rfl rfl rfl rfl rfl rfl rfl ?_; (conv => rhs; simp only [Nf.all, Nat.reduceBEq, reduceAdd, reduceSub]); refine AOps.allocN' rfl rfl rfl rfl ?_; (conv => rhs; simp only [Nf.all, Nat.reduceBEq, reduceAdd, reduceSub]); refine AOps.store_bn rfl rfl rfl rfl rfl rfl rfl rfl rfl (by with_reducible assumption) ?_; (conv => rhs; simp only [Nf.all, Nat.reduceBEq, reduceAdd, reduceSub]); refine zd ?_; refine zq ?_; refine za ?_; refine zd ?_; refine zo ?_; refine zq ?_; (conv => rhs; simp only [Nf.all, Nat.reduceBEq, reduceAdd, reduceSub]); refine za ?_; refine zd ?_; refine AW.block ?_)
  ((conv => rhs; simp only [Nf.all, Nat.reduceBEq, reduceAdd, reduceSub]); apply AW.loopR [5, 4, 0] [0] (fun t : Nat × Int × List Int => ([(6, litI t.2.1), (7, litI t.1)] : List (Nat × AV))) (fun t : Nat × Int × List Int => ([(1, some (.box [.own 2 3 1 (t.2.2.map encI), litI (s % 4 + 1)])), (2, some .row)] : List (Nat × Option Ob))) (fun t : Nat × Int × List Int => t.1 ≤ 4 ∧ t.1 ≤ raw.length ∧ t.2.2.length = t.1 ∧ 0 ≤ t.2.1 ∧ t.2.1 ≤ 12 ∧ scF 4 12 raw = t.2.2 ++ scF (4 - t.1) t.2.1 (raw.drop t.1)) (fun t : Nat × Int × List Int => 4 - t.1) ((0, 12, [])); (conv => lhs; simp only [Nf.lpR, Nf.all, Nat.reduceBEq, reduceAdd, reduceSub]); (all_goals skip))
  · exact ⟨Nat.zero_le _, Nat.zero_le _, rfl, by decide, by decide, rfl⟩
  · exact weak rfl (by (refine ⟨.intE (by first | with_reducible rfl | (rfl)), ?_⟩; refine ⟨.intE (by first | with_reducible rfl | (rfl)), ?_⟩; (iterate 2 refine ⟨.eq rfl rfl, ?_⟩); refine ⟨.pvE (by first | with_reducible rfl | (rfl)), ?_⟩; exact trivial)) (by (refine ⟨.box _ rfl ?_, ?_⟩; refine ⟨.nilown _ _ _ rfl rfl, ?_⟩; refine ⟨.intE (by first | with_reducible rfl | (rfl)), ?_⟩; exact trivial; refine ⟨.newrow rfl, ?_⟩; refine ⟨.box _ rfl ?_, ?_⟩; refine ⟨.eq rfl rfl, ?_⟩; refine ⟨.intE (by first | with_reducible rfl | (rfl)), ?_⟩; (iterate 2 exact trivial))) rfl
  rintro ⟨i, left, D⟩ ⟨h4, hi, hD, hl0, hl1, he⟩
  simp only at h4 hi hD hl0 hl1 he ⊢
  by_cases hgo : i < raw.length ∧ i < 4 ∧ 0 < left
  · obtain ⟨g1, g2, g3⟩ := hgo
    obtain ⟨m, hm⟩ : ∃ m, 4 - i = m + 1 := ⟨3 - i, by omega⟩
    rw [hm, scF_drop g1, if_pos g3] at he
    have hx := hr _ (List.getElem_mem g1)
    have hn1 := Int.emod_nonneg raw[i] (by omega : (5 : Int) ≠ 0)
    have hn2 := Int.emod_lt_of_pos raw[i] (by omega : (0 : Int) < 5)
    have hmn : 1 ≤ min (raw[i] % 5 + 1) left ∧ min (raw[i] % 5 + 1) left ≤ left := by omega
    (refine zo ?_; refine zq ?_; (iterate 2 refine zm ?_); refine zn ?_; refine zs ?_; refine zm ?_; refine zt ?_; refine zm ?_; refine zt ?_; refine zs ?_; refine AOps.pickT_pv rfl rfl (by first | omega | decide) rfl rfl rfl rfl ?_; refine zm ?_; refine zt ?_; refine zm ?_; refine zt ?_; refine AOps.gtr rfl rfl rfl rfl rfl ?_; refine AOps.pickT_pv rfl rfl (by first | omega | decide) rfl rfl rfl rfl ?_; refine zd ?_; refine AW.condY rfl rfl (by with_reducible assumption) ?_; refine AW.skip ?_; refine thenD_n ?_; refine zo ?_; refine AW.block ?_; refine zq ?_; (conv => rhs; simp only [Nf.all, Nat.reduceBEq, reduceAdd, reduceSub]); (iterate 2 refine zm ?_); (focus ((with_reducible apply AOps.index_map); (iterate 7 exact rfl); rotate_left; omega)); refine zr ?_; refine AOps.convI rfl rfl rfl rfl rfl (by omega) ?_; refine AOps.remE rfl rfl rfl rfl rfl (by omega) ?_; refine AOps.add rfl rfl rfl rfl rfl (by omega) ?_; refine zm ?_; refine AOps.min2 rfl rfl rfl rfl rfl ?_; refine za ?_; refine zd ?_; refine zq ?_; (conv => rhs; simp only [Nf.all, Nat.reduceBEq, reduceAdd, reduceSub]); refine AOps.fieldAddrN 30 0 0 rfl rfl rfl rfl ?_; refine zb ?_; refine zm ?_; refine AOps.bs1 rfl rfl rfl rfl rfl rfl rfl rfl ?_; (conv => rhs; simp only [Nf.all, Nat.reduceBEq, reduceAdd, reduceSub]); (with_reducible apply AOps.appendS); exact rfl; (first | exact .pv rfl | exact .own rfl | exact .nil rfl); (iterate 9 exact rfl); (first | omega | (simp only [List.length_map, List.length_append, List.length_cons, List.length_nil, List.length_drop, List.length_take, chunk_len]; omega)); (conv => rhs; simp only [Nf.all, Nat.reduceBEq, reduceAdd, reduceSub]); refine AOps.fieldAddrN 30 0 0 rfl rfl rfl rfl ?_; refine AOps.store_b1 rfl rfl rfl rfl rfl rfl rfl rfl rfl (by with_reducible assumption) ?_; (conv => rhs; simp only [Nf.all, Nat.reduceBEq, reduceAdd, reduceSub]); refine zd ?_; refine AW.region ?_; (iterate 2 refine zm ?_); refine AOps.sub rfl rfl rfl rfl rfl (by omega) ?_; refine za ?_; refine AOps.nil ?_; refine inBlockD_n ?_; refine thenD_n ?_; refine AW.region ?_; (conv => rhs; simp only [Nf.all, Nat.reduceBEq, reduceAdd, reduceSub]); refine zm ?_; refine AOps.add rfl rfl rfl rfl rfl (by omega) ?_; refine za ?_; refine zd ?_)
    exact ⟨(i + 1, left - min (raw[i] % 5 + 1) left, D ++ [min (raw[i] % 5 + 1) left]), ⟨by show i + 1 ≤ 4; omega, by show i + 1 ≤ _; omega, by show (D ++ [_]).length = i + 1; rw [List.length_append, hD]; rfl, by show 0 ≤ left - _; omega, by show left - _ ≤ 12; omega, by show _ = (D ++ [_]) ++ scF (4 - (i + 1)) _ _; rw [show 4 - (i + 1) = m by omega, he, List.append_assoc]; rfl⟩, by show 4 - (i + 1) < 4 - i; omega, weak rfl (by (refine ⟨.intE (by first | with_reducible rfl | (first | rfl | (rw [List.map_append]; rfl))), ?_⟩; refine ⟨.intE (by first | with_reducible rfl | (first | rfl | (rw [List.map_append]; rfl))), ?_⟩; (iterate 2 refine ⟨.eq rfl rfl, ?_⟩); refine ⟨.pvE (by first | with_reducible rfl | (first | rfl | (rw [List.map_append]; rfl))), ?_⟩; exact trivial)) (by (refine ⟨.box _ rfl ?_, ?_⟩; refine ⟨.ownE (by first | with_reducible rfl | (first | rfl | (rw [List.map_append]; rfl))) rfl, ?_⟩; refine ⟨.intE (by first | with_reducible rfl | (first | rfl | (rw [List.map_append]; rfl))), ?_⟩; exact trivial; refine ⟨.row rfl, ?_⟩; refine ⟨.box _ rfl ?_, ?_⟩; refine ⟨.eq rfl rfl, ?_⟩; refine ⟨.intE (by first | with_reducible rfl | (first | rfl | (rw [List.map_append]; rfl))), ?_⟩; (iterate 2 exact trivial))) rfl⟩
  · have hst : scF (4 - i) left (raw.drop i) = [] := by
      refine scF_stop ?_
      by_cases g1 : i < raw.length
      · by_cases g2 : i < 4
        · exact .inr (.inr (by omega))
        · exact .inl (by omega)
      · exact .inr (.inl (List.drop_eq_nil_of_le (by omega)))
    rw [hst, List.append_nil] at he
    rw [he]
    by_cases g1 : i < raw.length
    · by_cases g2 : i < 4
      · (refine zo ?_; refine zq ?_; (iterate 2 refine zm ?_); refine zn ?_; refine zs ?_; refine zm ?_; refine zt ?_; refine zm ?_; refine zt ?_; refine zs ?_; refine AOps.pickT_pv rfl rfl (by first | omega | decide) rfl rfl rfl rfl ?_; refine zm ?_; refine zt ?_; refine zm ?_; refine zt ?_; refine AOps.gtr rfl rfl rfl rfl rfl ?_; refine AOps.pickT_pv rfl rfl (by first | omega | decide) rfl rfl rfl rfl ?_; refine zd ?_; refine zk ?_; refine AW.exit ?_; (iterate 2 refine thenD_exit ?_); refine inBlockD_exit ?_; refine thenD_n ?_; refine zq ?_; (conv => rhs; simp only [Nf.all, Nat.reduceBEq, reduceAdd, reduceSub]); refine AOps.load_ball rfl rfl rfl rfl rfl ?_; (conv => rhs; simp only [Nf.all, Nat.reduceBEq, reduceAdd, reduceSub]); refine AOps.store_bn rfl rfl rfl rfl rfl rfl rfl rfl rfl (by with_reducible assumption) ?_; (conv => rhs; simp only [Nf.all, Nat.reduceBEq, reduceAdd, reduceSub]); refine zd ?_; refine AW.ret ?_)
        all_goals (apply ends_ret; (exact Res.one (.cell rfl rfl rfl rfl)); (refine Le.aggL ?_; refine LeL.cons ?_ ?_; exact Le.own _ _ _ _ rfl; refine LeL.cons ?_ ?_; (with_reducible exact Le.pv _); exact LeL.nil))
      · (refine zo ?_; refine zq ?_; (iterate 2 refine zm ?_); refine zn ?_; refine zs ?_; refine zm ?_; refine zt ?_; refine zm ?_; refine zt ?_; refine zs ?_; refine AOps.pickT_pv rfl rfl (by first | omega | decide) rfl rfl rfl rfl ?_; refine zm ?_; (iterate 2 refine AOps.guardTn rfl rfl rfl rfl rfl rfl (by first | omega | decide) ?_); refine AOps.pickF_pv rfl rfl (by first | omega | decide) rfl rfl rfl rfl ?_; refine zd ?_; refine AW.cond_lf rfl rfl ?_; refine AW.exit ?_; (iterate 2 refine thenD_exit ?_); refine inBlockD_exit ?_; refine thenD_n ?_; refine zq ?_; (conv => rhs; simp only [Nf.all, Nat.reduceBEq, reduceAdd, reduceSub]); refine AOps.load_ball rfl rfl rfl rfl rfl ?_; (conv => rhs; simp only [Nf.all, Nat.reduceBEq, reduceAdd, reduceSub]); refine AOps.store_bn rfl rfl rfl rfl rfl rfl rfl rfl rfl (by with_reducible assumption) ?_; (conv => rhs; simp only [Nf.all, Nat.reduceBEq, reduceAdd, reduceSub]); refine zd ?_; refine AW.ret ?_)
        all_goals (apply ends_ret; (exact Res.one (.cell rfl rfl rfl rfl)); (refine Le.aggL ?_; refine LeL.cons ?_ ?_; exact Le.own _ _ _ _ rfl; refine LeL.cons ?_ ?_; (with_reducible exact Le.pv _); exact LeL.nil))
    · (refine zo ?_; refine zq ?_; (iterate 2 refine zm ?_); refine zn ?_; refine zs ?_; refine zm ?_; (iterate 2 refine AOps.guardTn rfl rfl rfl rfl rfl rfl (by first | omega | decide) ?_); refine AOps.pickF_pv rfl rfl (by first | omega | decide) rfl rfl rfl rfl ?_; refine zm ?_; (iterate 2 refine AOps.guard_lf rfl rfl rfl rfl rfl rfl rfl ?_); refine AOps.pick_lf rfl rfl rfl rfl rfl rfl ?_; refine zd ?_; refine AW.cond_lf rfl rfl ?_; refine AW.exit ?_; (iterate 2 refine thenD_exit ?_); refine inBlockD_exit ?_; refine thenD_n ?_; refine zq ?_; (conv => rhs; simp only [Nf.all, Nat.reduceBEq, reduceAdd, reduceSub]); refine AOps.load_ball rfl rfl rfl rfl rfl ?_; (conv => rhs; simp only [Nf.all, Nat.reduceBEq, reduceAdd, reduceSub]); refine AOps.store_bn rfl rfl rfl rfl rfl rfl rfl rfl rfl (by with_reducible assumption) ?_; (conv => rhs; simp only [Nf.all, Nat.reduceBEq, reduceAdd, reduceSub]); refine zd ?_; refine AW.ret ?_)
      all_goals (apply ends_ret; (exact Res.one (.cell rfl rfl rfl rfl)); (refine Le.aggL ?_; refine LeL.cons ?_ ?_; exact Le.own _ _ _ _ rfl; refine LeL.cons ?_ ?_; (with_reducible exact Le.pv _); exact LeL.nil))
end Go.Ab
