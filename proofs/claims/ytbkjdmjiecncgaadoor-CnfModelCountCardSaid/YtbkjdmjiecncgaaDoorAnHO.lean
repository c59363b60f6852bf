/- slices' functions that take functions. -/
import Derived.Test.YtbkjdmjiecncgaaDoorAnB1
import Derived.Test.YtbkjdmjiecncgaaDoorAbL2
import Derived.Test.YtbkjdmjiecncgaaDoorAbL3
set_option linter.unusedSimpArgs false
set_option linter.unusedVariables false
namespace Go.Ab
open Go Go.Proofs
open Nat (reduceAdd reduceSub)
set_option maxRecDepth 20000
set_option maxHeartbeats 4000000
attribute [local irreducible] AW AOps thenD inBlockD AR iterEnds roundEndsN inlEnds noGotoD
def idxF {α : Type} (p : α → Bool) (l : List α) : Int := if l.any p = true then (l.findIdx p : Nat) else -1
theorem idxF_yes {α : Type} {p : α → Bool} {l : List α} {k : Nat} (hk : k < l.length) (h0 : (l.take k).any p = false) (hp : p l[k] = true) : idxF p l = (k : Int) := by
  unfold idxF
  rw [if_pos (List.any_eq_true.2 ⟨l[k], List.getElem_mem hk, hp⟩), List.findIdx_eq (by exact hk) |>.2 ⟨hp, fun j hj => ?_⟩]
  rw [List.any_eq_false] at h0
  simpa using h0 l[j] (List.mem_take_iff_getElem.2 ⟨j, by omega, rfl⟩)
theorem idxF_no {α : Type} {p : α → Bool} {l : List α} (h0 : l.any p = false) : idxF p l = -1 := by
  unfold idxF
  rw [if_neg (by rw [h0]; simp)]
theorem idxF_ge {α : Type} (p : α → Bool) (l : List α) : decide (0 ≤ idxF p l) = l.any p := by
  unfold idxF
  cases l.any p with
  | true => simp
  | false => simp
theorem anyP_snoc {α : Type} {p : α → Bool} {l : List α} {k : Nat} (hk : k < l.length) : (l.take (k + 1)).any p = ((l.take k).any p || p l[k]) := by
  rw [take_succ_get hk, List.any_append]; simp
abbrev vF (fx : FuncId) (vs us : Array Value) : Value := .func (.func fx) vs us
abbrev boolF {α : Type} (p : α → Bool) (x : α) : AV := litB (p x)
theorem indexI_fn (l : List Int) (p : Int → Bool) (fx : FuncId) (vs us : Array Value) : FnW (Ways Tryd.prog (vF fx vs us) litI (boolF p) l) Tryd.prog 55 [.pv (ints l), .pv (.lit (vF fx vs us))] (litI (idxF p l)) := by
  have hstay_ := Ways.stay (P := Tryd.prog) (vF fx vs us) litI (boolF p) l
  refine FnW.enter hstay_ (n := 19) Tryd.func55 rfl rfl rfl rfl rfl (by decide) fun g hro_ hwt_ hT => ?_; (try (conv => rhs; simp only [Nf.all, Nat.reduceBEq, reduceAdd, reduceSub]))
  refine AW.len_map 0 rfl fun hlen => ?_
  (refine zq ?_; refine za ?_; refine zd ?_; refine zo ?_; refine zq ?_; (conv => rhs; simp only [Nf.all, Nat.reduceBEq, reduceAdd, reduceSub]); refine zm ?_; refine zn ?_; refine zm ?_; refine zd ?_; refine AW.block ?_)
  ((conv => rhs; simp only [Nf.all, Nat.reduceBEq, reduceAdd, reduceSub]); apply AW.loopR [7, 0, 1] [] (fun k : Nat => ([(8, litI k)] : List (Nat × AV))) (fun k : Nat => ([] : List (Nat × Option Ob))) (fun k : Nat => k ≤ l.length ∧ (l.take k).any p = false) (fun k : Nat => l.length - k) (0); (conv => lhs; simp only [Nf.lpR, Nf.all, Nat.reduceBEq, reduceAdd, reduceSub]); (all_goals skip))
  · exact ⟨Nat.zero_le _, rfl⟩
  · exact weak rfl (by (refine ⟨.eq rfl rfl, ?_⟩; (iterate 3 refine ⟨.eq rfl rfl, ?_⟩); exact trivial)) (by (exact trivial)) rfl
  rintro k ⟨hk, hno⟩
  by_cases hlt : k < l.length
  · have hs := anyP_snoc (p := p) hlt
    rw [hno, Bool.false_or] at hs
    cases hp : p l[k] with
    | true =>
      have hw : TB (fun w => Acts Tryd.prog (vF fx vs us) w (litI l[k]) (litB true)) g := hp ▸ hT.way (List.getElem_mem hlt)
      rw [idxF_yes hlt hno hp]
      (refine zq ?_; refine zs ?_; refine zd ?_; refine zo ?_; refine zc ?_; refine AW.skip ?_; refine thenD_n ?_; refine zo ?_; refine AW.block ?_; refine zq ?_; (conv => rhs; simp only [Nf.all, Nat.reduceBEq, reduceAdd, reduceSub]); refine zm ?_; refine za ?_; refine zd ?_; refine zq ?_; (conv => rhs; simp only [Nf.all, Nat.reduceBEq, reduceAdd, reduceSub]); (iterate 3 refine zm ?_); (focus ((with_reducible apply AOps.index_map); (iterate 7 exact rfl); rotate_left; omega)); refine zr ?_; (with_reducible apply AOps.callV (hT := hw)); (iterate 3 exact rfl); (first | exact .le (.pv _) | exact .box rfl rfl | exact .le (.own _ _ _ _ rfl) | exact .le (.nil _) | exact .le (.any _) | exact .le (.rptr _) | (refine .le (.aggL ?_); repeat (first | exact .nil | (refine .cons ?_ ?_; (first | exact .pv _ | exact .own _ _ _ _ rfl | exact .nil _))))); exact rfl; exact rfl; exact (fun h_ => by cases h_); refine zd ?_; refine AW.cond_lt rfl rfl ?_; refine zq ?_; (conv => rhs; simp only [Nf.all, Nat.reduceBEq, reduceAdd, reduceSub]); refine zm ?_; refine za ?_; refine zd ?_; refine AW.ret ?_; refine inBlockD_ret ?_; (iterate 2 refine thenD_ret ?_); refine inBlockD_ret ?_; refine thenD_ret ?_)
      (apply ends_ret; (exact Res.one (.tmp rfl rfl)); (refine Le.litI ?_; (rfl)))
    | false =>
      have hw : TB (fun w => Acts Tryd.prog (vF fx vs us) w (litI l[k]) (litB false)) g := hp ▸ hT.way (List.getElem_mem hlt)
      rw [hp] at hs
      (refine zq ?_; refine zs ?_; refine zd ?_; refine zo ?_; refine zc ?_; refine AW.skip ?_; refine thenD_n ?_; refine zo ?_; refine AW.block ?_; refine zq ?_; (conv => rhs; simp only [Nf.all, Nat.reduceBEq, reduceAdd, reduceSub]); refine zm ?_; refine za ?_; refine zd ?_; refine zq ?_; (conv => rhs; simp only [Nf.all, Nat.reduceBEq, reduceAdd, reduceSub]); (iterate 3 refine zm ?_); (focus ((with_reducible apply AOps.index_map); (iterate 7 exact rfl); rotate_left; omega)); refine zr ?_; (with_reducible apply AOps.callV (hT := hw)); (iterate 3 exact rfl); (first | exact .le (.pv _) | exact .box rfl rfl | exact .le (.own _ _ _ _ rfl) | exact .le (.nil _) | exact .le (.any _) | exact .le (.rptr _) | (refine .le (.aggL ?_); repeat (first | exact .nil | (refine .cons ?_ ?_; (first | exact .pv _ | exact .own _ _ _ _ rfl | exact .nil _))))); exact rfl; exact rfl; exact (fun h_ => by cases h_); refine zd ?_; refine AW.cond_lf rfl rfl ?_; refine AW.skip ?_; refine inBlockD_n ?_; refine thenD_n ?_; refine AW.region ?_; (conv => rhs; simp only [Nf.all, Nat.reduceBEq, reduceAdd, reduceSub]); refine AOps.add rfl rfl rfl rfl rfl (by omega) ?_; refine zm ?_; refine zd ?_)
      exact ⟨k + 1, ⟨by omega, hs⟩, by omega, weak rfl (by (refine ⟨.eq rfl rfl, ?_⟩; (iterate 3 refine ⟨.eq rfl rfl, ?_⟩); exact trivial)) (by (exact trivial)) rfl⟩
  · rw [take_all (l := l) (by omega)] at hno
    rw [idxF_no hno]
    (refine zq ?_; refine zs ?_; refine zd ?_; refine zo ?_; refine zk ?_; refine AW.exit ?_; (iterate 2 refine thenD_exit ?_); refine inBlockD_exit ?_; refine thenD_n ?_; refine zq ?_; (conv => rhs; simp only [Nf.all, Nat.reduceBEq, reduceAdd, reduceSub]); refine za ?_; refine zd ?_; refine AW.ret ?_)
    (apply ends_ret; (exact Res.one (.tmp rfl rfl)); (refine Le.litI ?_; (rfl)))
theorem contI_fn (l : List Int) (p : Int → Bool) (fx : FuncId) (vs us : Array Value) : FnW (Ways Tryd.prog (vF fx vs us) litI (boolF p) l) Tryd.prog 40 [.pv (ints l), .pv (.lit (vF fx vs us))] (litB (l.any p)) := by
  have hstay_ := Ways.stay (P := Tryd.prog) (vF fx vs us) litI (boolF p) l
  have hi := indexI_fn l p fx vs us
  rw [← idxF_ge]
  refine FnW.enter hstay_ (n := 9) Tryd.func40 rfl rfl rfl rfl rfl (by decide) fun g hro_ hwt_ hT => ?_; (try (conv => rhs; simp only [Nf.all, Nat.reduceBEq, reduceAdd, reduceSub]))
  (refine zq ?_; refine za ?_; refine zd ?_; refine zq ?_; (conv => rhs; simp only [Nf.all, Nat.reduceBEq, reduceAdd, reduceSub]); (iterate 2 refine zm ?_); (with_reducible apply AOps.callW (hf := hi)); (first | (with_reducible assumption) | (refine TB.gs ?_ (by with_reducible assumption); with_reducible assumption) | (refine TB.gi ?_ (by with_reducible assumption); with_reducible assumption) | exact TB.none _); (repeat (first | exact .nil | (refine .cons rfl ?_ ?_; (first | exact .pv _ | exact .own _ _ _ _ rfl | exact .nil _ | exact .any _ | exact .rptr _ | (refine .aggL ?_; repeat (first | exact .nil | (refine .cons ?_ ?_; (first | exact .pv _ | exact .own _ _ _ _ rfl | exact .nil _)))))))); exact rfl; exact rfl; exact (fun h_ => by cases h_); refine AOps.geq rfl rfl rfl rfl rfl ?_; refine za ?_; refine zd ?_; refine AW.ret ?_)
  (apply ends_ret; (exact Res.one (.tmp rfl rfl)); (refine Le.litB ?_; (rfl)))
end Go.Ab
