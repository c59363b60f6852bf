/- Chapter 09: the laws' own functions: small examples, what is examined, bounds made of raw data. -/
import Derived.Test.YtjknobmbibighaaAhK12
import Derived.Test.YtjknobmbibighaaAbL2
set_option linter.unusedSimpArgs false
set_option linter.unusedVariables false
namespace Go.Ab
open Go Go.Proofs
open Nat (reduceAdd reduceSub)
set_option maxRecDepth 20000
set_option maxHeartbeats 4000000
def encU (x : Int) : List PV := [.lit (.int .u8 x)]
def encUs (l : List Int) : List PV := [.slice 1 (l.map encU)]
abbrev raws (r : List (List Int)) : PV := .slice 1 (r.map encUs)
/-- the tuples at the told places. -/
def selL (q : Nat → Bool) : Nat → List Int → List Int
  | _, [] => []
  | i, t :: ts => (if q i = true then [t] else []) ++ selL q (i + 1) ts
theorem selL_snoc {q : Nat → Bool} : ∀ {l : List Int} {i k : Nat} (hk : k < l.length), selL q i (l.take (k + 1)) = selL q i (l.take k) ++ if q (i + k) = true then [l[k]] else []
  | [], i, k, hk => by simp at hk
  | t :: ts, i, 0, _ => by
    show (if q i = true then [t] else []) ++ [] = [] ++ if q i = true then [t] else []
    rw [List.append_nil, List.nil_append]
  | t :: ts, i, k + 1, hk => by
    have ih := selL_snoc (q := q) (l := ts) (i := i + 1) (k := k) (by simpa using hk)
    show (if q i = true then [t] else []) ++ selL q (i + 1) (ts.take (k + 1)) = ((if q i = true then [t] else []) ++ selL q (i + 1) (ts.take k)) ++ if q (i + (k + 1)) = true then [(t :: ts)[k + 1]] else []
    rw [ih, List.append_assoc, show i + 1 + k = i + (k + 1) by omega]
    rfl
theorem selL_len (q : Nat → Bool) : ∀ (l : List Int) (i : Nat), (selL q i l).length ≤ l.length
  | [], _ => Nat.le_refl _
  | t :: ts, i => by
    show ((if q i = true then [t] else []) ++ selL q (i + 1) ts).length ≤ ts.length + 1
    have := selL_len q ts (i + 1)
    rw [List.length_append]
    split
    · simp; omega
    · simp; omega
def bitU (row : List Int) (k : Nat) : Int := if h : k < row.length then row[k] % 4 else 1
def lowL (row : List Int) (l : List Int) : List Int := selL (fun k => decide (1 < bitU row k)) 0 l
def highL (row : List Int) (l : List Int) : List Int := selL (fun k => decide (0 < bitU row k)) 0 l
theorem lowL_snoc {row l : List Int} {k : Nat} (hk : k < l.length) : lowL row (l.take (k + 1)) = lowL row (l.take k) ++ if 1 < bitU row k then [l[k]] else [] := by
  unfold lowL
  rw [selL_snoc hk]
  simp
theorem highL_snoc {row l : List Int} {k : Nat} (hk : k < l.length) : highL row (l.take (k + 1)) = highL row (l.take k) ++ if 0 < bitU row k then [l[k]] else [] := by
  unfold highL
  rw [selL_snoc hk]
  simp
def madeB (at' : List Int) (f : FieldM) (row : List Int) : BndM := (((f.sorts.length : Int), lowL row (fullR at' f.sorts).2), ((f.sorts.length : Int), highL row (fullR at' f.sorts).2))
def madeL (at' : List Int) (raw : List (List Int)) : Nat → List FieldM → List BndM
  | _, [] => []
  | i, f :: fs => madeB at' f (raw.getD i []) :: madeL at' raw (i + 1) fs
theorem madeL_len (at' : List Int) (raw : List (List Int)) : ∀ (fs : List FieldM) (i : Nat), (madeL at' raw i fs).length = fs.length
  | [], _ => rfl
  | f :: fs, i => by show (madeL at' raw (i + 1) fs).length + 1 = fs.length + 1; rw [madeL_len at' raw fs]
theorem madeL_at (at' : List Int) (raw : List (List Int)) : ∀ (fs : List FieldM) (i k : Nat) (hk : k < fs.length), (madeL at' raw i fs)[k]'(by rw [madeL_len]; exact hk) = madeB at' fs[k] (raw.getD (i + k) [])
  | [], _, _, hk => by simp at hk
  | f :: fs, i, 0, _ => rfl
  | f :: fs, i, k + 1, hk => by
    have := madeL_at at' raw fs (i + 1) k (by simpa using hk)
    show (madeL at' raw (i + 1) fs)[k]'_ = madeB at' (fs[k]'(by simpa using hk)) _
    rw [this, show i + 1 + k = i + (k + 1) by omega]
/-- the first i made, the rest as they were. -/
def mixL (at' : List Int) (raw : List (List Int)) (fs : List FieldM) (i : Nat) : List BndM := (madeL at' raw 0 fs).take i ++ (defM at' fs).drop i
theorem mixL_len {at' : List Int} {raw : List (List Int)} {fs : List FieldM} {i : Nat} (hi : i ≤ fs.length) : (mixL at' raw fs i).length = fs.length := by
  unfold mixL defM
  rw [List.length_append, List.length_take, madeL_len, List.length_drop, List.length_map]; omega
theorem mixL_at {at' : List Int} {raw : List (List Int)} {fs : List FieldM} {i : Nat} (hi : i < fs.length) : (mixL at' raw fs i)[i]'(by rw [mixL_len (by omega)]; exact hi) = defB at' fs[i] := by
  unfold mixL
  rw [List.getElem_append_right (by rw [List.length_take, madeL_len]; omega)]
  simp only [List.length_take, madeL_len, List.getElem_drop, defM, List.getElem_map]
  congr 2
  omega
theorem mixL_set {at' : List Int} {raw : List (List Int)} {fs : List FieldM} {i : Nat} (hi : i < fs.length) : (mixL at' raw fs i).set i (madeB at' fs[i] (raw.getD i [])) = mixL at' raw fs (i + 1) := by
  have h1 : i < (madeL at' raw 0 fs).length := by rw [madeL_len]; exact hi
  have h2 : i < (defM at' fs).length := by unfold defM; rw [List.length_map]; exact hi
  have h3 := madeL_at at' raw fs 0 i hi
  rw [Nat.zero_add] at h3
  unfold mixL
  rw [take_succ_get h1, h3, List.drop_eq_getElem_cons h2, List.set_append_right _ _ (by rw [List.length_take]; omega)]
  rw [List.length_take, Nat.min_eq_left (by omega), Nat.sub_self, List.set_cons_zero, List.append_assoc]
  rfl
theorem mixL_zero (at' : List Int) (raw : List (List Int)) (fs : List FieldM) : mixL at' raw fs 0 = defM at' fs := by unfold mixL; simp
theorem mixL_all (at' : List Int) (raw : List (List Int)) (fs : List FieldM) : mixL at' raw fs fs.length = madeL at' raw 0 fs := by
  unfold mixL defM
  rw [List.take_of_length_le (by rw [madeL_len]; omega), List.drop_eq_nil_of_le (by simp), List.append_nil]
attribute [local irreducible] AW AOps thenD inBlockD AR iterEnds roundEndsN inlEnds noGotoD canon diffL interL subL relOk rks lowL highL bitU mixL
theorem set9_fn (l : List Int) : Fn Try.prog 21 [.pv (ints l)] (relA (1, l)) := by
  refine Fn.enter (n := 5) Try.func21 rfl rfl rfl rfl rfl (by decide) fun g hro_ hwt_ => ?_; (try (conv => rhs; simp only [Nf.all, Nat.reduceBEq, reduceAdd, reduceSub]))
  (refine zq ?_; refine AOps.allocN' rfl rfl rfl rfl ?_; (conv => rhs; simp only [Nf.all, Nat.reduceBEq, reduceAdd, reduceSub]); refine zd ?_; refine zq ?_; refine zm ?_; refine AOps.buildN 40 [0, 1] rfl rfl rfl rfl rfl rfl rfl rfl rfl ?_; (conv => rhs; simp only [Nf.all, Nat.reduceBEq, reduceAdd, reduceSub]); refine AOps.store_bn rfl rfl rfl rfl rfl rfl rfl rfl rfl (by with_reducible assumption) ?_; (conv => rhs; simp only [Nf.all, Nat.reduceBEq, reduceAdd, reduceSub]); refine zd ?_; refine AW.ret ?_)
  (apply ends_ret; (exact Res.one (.cell rfl rfl rfl rfl)); (refine Le.aggL ?_; refine LeL.cons ?_ ?_; (with_reducible exact Le.pv _); refine LeL.cons ?_ ?_; (with_reducible exact Le.pv _); exact LeL.nil))
theorem setN9_fn : Fn Try.prog 21 [.pv (.lit (.slice none 0 0))] (relA (1, [])) := by
  refine Fn.enter (n := 5) Try.func21 rfl rfl rfl rfl rfl (by decide) fun g hro_ hwt_ => ?_; (try (conv => rhs; simp only [Nf.all, Nat.reduceBEq, reduceAdd, reduceSub]))
  (refine zq ?_; refine AOps.allocN' rfl rfl rfl rfl ?_; (conv => rhs; simp only [Nf.all, Nat.reduceBEq, reduceAdd, reduceSub]); refine zd ?_; refine zq ?_; refine zm ?_; refine AOps.buildN 40 [0, 1] rfl rfl rfl rfl rfl rfl rfl rfl rfl ?_; (conv => rhs; simp only [Nf.all, Nat.reduceBEq, reduceAdd, reduceSub]); refine AOps.store_bn rfl rfl rfl rfl rfl rfl rfl rfl rfl (by with_reducible assumption) ?_; (conv => rhs; simp only [Nf.all, Nat.reduceBEq, reduceAdd, reduceSub]); refine zd ?_; refine AW.ret ?_)
  (apply ends_ret; (exact Res.one (.cell rfl rfl rfl rfl)); (refine Le.aggL ?_; refine LeL.cons ?_ ?_; (with_reducible exact Le.pv _); refine LeL.cons ?_ ?_; exact Le.nil _; exact LeL.nil))
theorem samefree_fn (a b : List (Int × Int)) (ha : a.length ≤ 1000000) : Fn Try.prog 22 [.pv (prs a), .pv (prs b)] (litB (decide (a = b))) := by
  refine Fn.enter (n := 26) Try.func22 rfl rfl rfl rfl rfl (by decide) fun g hro_ hwt_ => ?_; (try (conv => rhs; simp only [Nf.all, Nat.reduceBEq, reduceAdd, reduceSub]))
  by_cases hab : a.length = b.length
  · (refine zq ?_; refine za ?_; refine zd ?_; refine zo ?_; refine zq ?_; (conv => rhs; simp only [Nf.all, Nat.reduceBEq, reduceAdd, reduceSub]); refine zm ?_; refine zn ?_; refine zm ?_; refine zn ?_; refine AOps.neq rfl rfl rfl rfl rfl ?_; refine zd ?_; refine zk ?_; refine AW.skip ?_; refine thenD_n ?_; refine zo ?_; refine zq ?_; (conv => rhs; simp only [Nf.all, Nat.reduceBEq, reduceAdd, reduceSub]); refine za ?_; refine zd ?_; refine AW.block ?_)
    ((conv => rhs; simp only [Nf.all, Nat.reduceBEq, reduceAdd, reduceSub]); apply AW.loopR [0, 1] [] (fun k : Nat => ([(5, litI k)] : List (Nat × AV))) (fun k : Nat => ([] : List (Nat × Option Ob))) (fun k : Nat => k ≤ a.length ∧ a.take k = b.take k) (fun k : Nat => a.length - k) (0); (conv => lhs; simp only [Nf.lpR, Nf.all, Nat.reduceBEq, reduceAdd, reduceSub]); (all_goals skip))
    · exact ⟨Nat.zero_le _, rfl⟩
    · exact weak rfl (by (refine ⟨.eq rfl rfl, ?_⟩; (iterate 2 refine ⟨.eq rfl rfl, ?_⟩); exact trivial)) (by (exact trivial)) rfl
    rintro k ⟨hk, hno⟩
    by_cases hlt : k < a.length
    · have hlt2 : k < b.length := by omega
      by_cases he : a[k] = b[k]
      · have h1 : a[k].1 = b[k].1 := by rw [he]
        have h2 : a[k].2 = b[k].2 := by rw [he]
        (refine zo ?_; refine zq ?_; (iterate 2 refine zm ?_); refine zn ?_; refine zs ?_; refine zd ?_; refine zc ?_; refine AW.skip ?_; refine thenD_n ?_; refine zo ?_; refine AW.block ?_; refine zo ?_; (with_reducible apply AW.regionQ); exact rfl; exact rfl; kernel_rfl; (with_reducible assumption); (iterate 2 refine zm ?_); (focus ((with_reducible apply AOps.index_map); (iterate 7 exact rfl); rotate_left; omega)); refine AOps.load_rn rfl rfl rfl rfl ?_; (conv => rhs; simp only [Nf.all, Nat.reduceBEq, reduceAdd, reduceSub]); (iterate 2 refine zm ?_); (focus ((with_reducible apply AOps.index_map); (iterate 7 exact rfl); rotate_left; omega)); refine AOps.load_rn rfl rfl rfl rfl ?_; (conv => rhs; simp only [Nf.all, Nat.reduceBEq, reduceAdd, reduceSub]); refine AOps.neq2 rfl rfl rfl rfl rfl rfl (by kernel_rfl) rfl rfl rfl ?_; refine zd ?_; refine zk ?_; refine AW.skip ?_; refine inBlockD_n ?_; refine thenD_n ?_; refine AW.region ?_; (conv => rhs; simp only [Nf.all, Nat.reduceBEq, reduceAdd, reduceSub]); refine zm ?_; refine AOps.add rfl rfl rfl rfl rfl (by omega) ?_; refine za ?_; refine zd ?_)
        exact ⟨k + 1, ⟨by omega, eq_step hno hlt hlt2 he⟩, by omega, weak rfl (by (refine ⟨.eq rfl rfl, ?_⟩; (iterate 2 refine ⟨.eq rfl rfl, ?_⟩); exact trivial)) (by (exact trivial)) rfl⟩
      · have hne : ¬ a = b := by rintro rfl; exact he rfl
        rw [decide_eq_false hne]
        have h1 : ¬ (a[k].1 = b[k].1 ∧ a[k].2 = b[k].2) := fun h => he (Prod.ext h.1 h.2)
        (refine zo ?_; refine zq ?_; (iterate 2 refine zm ?_); refine zn ?_; refine zs ?_; refine zd ?_; refine zc ?_; refine AW.skip ?_; refine thenD_n ?_; refine zo ?_; refine AW.block ?_; refine zo ?_; (with_reducible apply AW.regionQ); exact rfl; exact rfl; kernel_rfl; (with_reducible assumption); (iterate 2 refine zm ?_); (focus ((with_reducible apply AOps.index_map); (iterate 7 exact rfl); rotate_left; omega)); refine AOps.load_rn rfl rfl rfl rfl ?_; (conv => rhs; simp only [Nf.all, Nat.reduceBEq, reduceAdd, reduceSub]); (iterate 2 refine zm ?_); (focus ((with_reducible apply AOps.index_map); (iterate 7 exact rfl); rotate_left; omega)); refine AOps.load_rn rfl rfl rfl rfl ?_; (conv => rhs; simp only [Nf.all, Nat.reduceBEq, reduceAdd, reduceSub]); refine AOps.neq2 rfl rfl rfl rfl rfl rfl (by kernel_rfl) rfl rfl rfl ?_; refine zd ?_; refine AW.condY rfl rfl (by with_reducible assumption) ?_; refine zq ?_; (conv => rhs; simp only [Nf.all, Nat.reduceBEq, reduceAdd, reduceSub]); refine za ?_; refine zd ?_; refine AW.ret ?_; refine inBlockD_ret ?_; (iterate 2 refine thenD_ret ?_); refine inBlockD_ret ?_; refine thenD_ret ?_)
        (apply ends_ret; (exact Res.one (.tmp rfl rfl)); (refine Le.litB ?_; (rfl)))
    · have he : a = b := eq_at_end hab hno hlt
      rw [decide_eq_true he]
      (refine zo ?_; refine zq ?_; (iterate 2 refine zm ?_); refine zn ?_; refine zs ?_; refine zd ?_; refine zk ?_; refine AW.exit ?_; (iterate 2 refine thenD_exit ?_); refine inBlockD_exit ?_; refine thenD_n ?_; refine zq ?_; (conv => rhs; simp only [Nf.all, Nat.reduceBEq, reduceAdd, reduceSub]); refine za ?_; refine zd ?_; refine AW.ret ?_)
      (apply ends_ret; (exact Res.one (.tmp rfl rfl)); (refine Le.litB ?_; (rfl)))
  · have hne : ¬ a = b := by rintro rfl; exact hab rfl
    rw [decide_eq_false hne]
    (refine zq ?_; refine za ?_; refine zd ?_; refine zo ?_; refine zq ?_; (conv => rhs; simp only [Nf.all, Nat.reduceBEq, reduceAdd, reduceSub]); refine zm ?_; refine zn ?_; refine zm ?_; refine zn ?_; refine AOps.neq rfl rfl rfl rfl rfl ?_; refine zd ?_; refine zc ?_; refine zq ?_; (conv => rhs; simp only [Nf.all, Nat.reduceBEq, reduceAdd, reduceSub]); refine za ?_; refine zd ?_; refine AW.ret ?_; refine thenD_ret ?_)
    (apply ends_ret; (exact Res.one (.tmp rfl rfl)); (refine Le.litB ?_; (rfl)))
theorem r5Valid_fn (s : SpecM) (at' : List Int) (st : Int) : Fn Try.prog 23 [spc s, scp at' st] (litB (decide (s.sorts.length = at'.length) && sizedB at' st)) := by
  obtain ⟨so, fs, p, q⟩ := s
  have hs := r5Sized_fn at' st
  simp only
  by_cases hl : so.length = at'.length
  · rw [decide_eq_true hl, Bool.true_and]
    refine Fn.enter (n := 16) Try.func23 rfl rfl rfl rfl rfl (by decide) fun g hro_ hwt_ => ?_; (try (conv => rhs; simp only [Nf.all, Nat.reduceBEq, reduceAdd, reduceSub]))
    (refine zq ?_; refine AOps.box rfl rfl rfl rfl ?_; (conv => rhs; simp only [Nf.all, Nat.reduceBEq, reduceAdd, reduceSub]); refine AOps.box rfl rfl rfl rfl ?_; (conv => rhs; simp only [Nf.all, Nat.reduceBEq, reduceAdd, reduceSub]); refine za ?_; refine zd ?_; refine zq ?_; (conv => rhs; simp only [Nf.all, Nat.reduceBEq, reduceAdd, reduceSub]); refine AOps.fieldAddrN 27 0 0 rfl rfl rfl rfl ?_; refine zb ?_; refine zn ?_; refine AOps.fieldAddrN 30 0 0 rfl rfl rfl rfl ?_; refine zb ?_; refine zn ?_; refine AOps.eql rfl rfl rfl rfl rfl ?_; refine zm ?_; refine zt ?_; refine AOps.load_ball rfl rfl rfl rfl rfl ?_; (conv => rhs; simp only [Nf.all, Nat.reduceBEq, reduceAdd, reduceSub]); refine zt ?_; (with_reducible apply AOps.call (hs)); (repeat (first | exact .nil | (refine .cons rfl ?_ ?_; (first | exact .pv _ | exact .own _ _ _ _ rfl | exact .nil _ | exact .any _ | exact .rptr _ | (refine .aggL ?_; repeat (first | exact .nil | (refine .cons ?_ ?_; (first | exact .pv _ | exact .own _ _ _ _ rfl | exact .nil _)))))))); exact rfl; exact rfl; exact (fun h_ => by cases h_); refine AOps.pickT_pv rfl rfl (by first | omega | decide) rfl rfl rfl rfl ?_; refine za ?_; refine zd ?_; refine AW.ret ?_)
    (apply ends_ret; (exact Res.one (.tmp rfl rfl)); (refine Le.litB ?_; (rfl)))
  · rw [decide_eq_false hl, Bool.false_and]
    refine Fn.enter (n := 16) Try.func23 rfl rfl rfl rfl rfl (by decide) fun g hro_ hwt_ => ?_; (try (conv => rhs; simp only [Nf.all, Nat.reduceBEq, reduceAdd, reduceSub]))
    (refine zq ?_; refine AOps.box rfl rfl rfl rfl ?_; (conv => rhs; simp only [Nf.all, Nat.reduceBEq, reduceAdd, reduceSub]); refine AOps.box rfl rfl rfl rfl ?_; (conv => rhs; simp only [Nf.all, Nat.reduceBEq, reduceAdd, reduceSub]); refine za ?_; refine zd ?_; refine zq ?_; (conv => rhs; simp only [Nf.all, Nat.reduceBEq, reduceAdd, reduceSub]); refine AOps.fieldAddrN 27 0 0 rfl rfl rfl rfl ?_; refine zb ?_; refine zn ?_; refine AOps.fieldAddrN 30 0 0 rfl rfl rfl rfl ?_; refine zb ?_; refine zn ?_; refine AOps.eql rfl rfl rfl rfl rfl ?_; refine zm ?_; (iterate 2 refine AOps.guardTn rfl rfl rfl rfl rfl rfl (by first | omega | decide) ?_); refine AOps.pickF_pv rfl rfl (by first | omega | decide) rfl rfl rfl rfl ?_; refine za ?_; refine zd ?_; refine AW.ret ?_)
    (apply ends_ret; (exact Res.one (.tmp rfl rfl)); (refine Le.litB ?_; (rfl)))
end Go.Ab
