/- Chapter 05: the names of atoms: the program's and the reference's. -/
import Derived.Test.YtjglejfhbehfbaaDoorAjF3
import Derived.Test.YtjglejfhbehfbaaDoorAbL2
import Derived.Test.YtjglejfhbehfbaaDoorAjSH
import Derived.Test.YtjglejfhbehfbaaDoorAbL3
set_option linter.unusedSimpArgs false
set_option linter.unusedVariables false
namespace Go.Ab
open Go Go.Proofs Go.RowKit
open Nat (reduceAdd reduceSub)
set_option maxRecDepth 20000
set_option maxHeartbeats 4000000
def numS (z : Int) : ByteArray := ⟨(Go.Lib.decDigits z.toNat).toArray⟩
def nameF (so : List SortM) (at' : List Int) (x : Int) : ByteArray :=
  if 0 ≤ srt at' x then (so.getD (srt at' x).toNat (⟨#[]⟩, false)).1 ++ ⟨#[36]⟩ ++ numS (x - (at'.take (srt at' x).toNat).sum) else ⟨#[]⟩
theorem dec_small : ∀ i, i < 100 → (Go.Lib.decDigits i).length ≤ 2 := by decide +kernel
theorem numS_size {z : Int} (h : 0 ≤ z ∧ z < 100) : (numS z).size ≤ 2 := dec_small z.toNat (by omega)
attribute [local irreducible] AW AOps thenD inBlockD AR iterEnds roundEndsN inlEnds noGotoD
theorem itoa_fn (z : Int) (hz : 0 ≤ z ∧ z < 100) : Fn Tryd.prog 32 [litI z] (litS (numS z)) where
  enters := enters_of Tryd.func32 rfl (by decide)
  calls := by
    intro N w vals hN hs hargs
    have hs : vals.size = 1 := hs
    obtain ⟨v0, rfl⟩ : ∃ v0, vals = #[v0] := by
      rcases vals with ⟨_ | ⟨v0, _ | _⟩⟩ <;> simp at hs
      exact ⟨v0, rfl⟩
    have h0 := (hargs 0 v0 _ rfl rfl).lit
    subst h0
    have h1 := Tryd.strconv_Itoa_small z.toNat (by omega) w
    rw [Int.toNat_of_nonneg hz.1] at h1
    exact h1.mono fun e w' ⟨he, hw⟩ => ⟨_, he, .pv (.lit _), hw ▸ Below.refl _ _⟩
theorem name_cases {at' : List Int} (hp : ∀ y ∈ at', 0 ≤ y) (x : Int) : srt at' x = -1 ∨ ∃ k : Nat, k < at'.length ∧ srt at' x = (k : Nat) ∧ (at'.take k).sum ≤ x ∧ x < (at'.take k).sum + at'.getD k 0 := by
  by_cases h0 : x < 0
  · exact .inl (srt_lo h0)
  by_cases h1 : at'.sum ≤ x
  · exact .inl (srt_hi hp h1)
  · obtain ⟨k, k1, k2, k3, k4⟩ := srt_in hp (x := x) (by omega) (by omega)
    rw [sum_snoc at' k1] at k4
    exact .inr ⟨k, k1, k2, k3, by rw [getD_at k1]; exact k4⟩
theorem uName_fn (s : SpecM) (at' : List Int) (st x : Int) (h : Ok5 at') (hl : s.sorts.length = at'.length) (hx : -9223372036854775808 ≤ x ∧ x ≤ 9223372036854775807) (hz : ∀ q ∈ s.sorts, q.1.size ≤ 1000) :
    Fn Tryd.prog 14 [spc s, scp at' st, litI x] (litS (nameF s.sorts at' x)) := by
  have hso := uSortOf_fn at' st x h.sm hx
  obtain ⟨so, fs, p, q⟩ := s
  simp only at hl hz ⊢
  rcases name_cases h.nn x with hn | ⟨k, k1, k2, k3, k4⟩
  · rw [hn] at hso
    have e : nameF so at' x = ⟨#[]⟩ := by unfold nameF; rw [if_neg (by rw [hn]; omega)]
    rw [e]
    refine Fn.enter (n := 27) Tryd.func14 rfl rfl rfl rfl rfl (by decide) fun g hro_ hwt_ => ?_; (try (conv => rhs; simp only [Nf.all, Nat.reduceBEq, reduceAdd, reduceSub]))
    (refine zq ?_; refine AOps.box rfl rfl rfl rfl ?_; (conv => rhs; simp only [Nf.all, Nat.reduceBEq, reduceAdd, reduceSub]); refine AOps.box rfl rfl rfl rfl ?_; (conv => rhs; simp only [Nf.all, Nat.reduceBEq, reduceAdd, reduceSub]); refine za ?_; refine zd ?_; refine zq ?_; (conv => rhs; simp only [Nf.all, Nat.reduceBEq, reduceAdd, reduceSub]); refine AOps.load_ball rfl rfl rfl rfl rfl ?_; (conv => rhs; simp only [Nf.all, Nat.reduceBEq, reduceAdd, reduceSub]); refine zm ?_; (with_reducible apply AOps.call (hso)); (repeat (first | exact .nil | (refine .cons rfl ?_ ?_; (first | exact .pv _ | exact .own _ _ _ _ rfl | exact .nil _ | exact .any _ | exact .rptr _ | (refine .aggL ?_; repeat (first | exact .nil | (refine .cons ?_ ?_; (first | exact .pv _ | exact .own _ _ _ _ rfl | exact .nil _)))))))); exact rfl; exact rfl; exact (fun h_ => by cases h_); refine za ?_; refine zd ?_; refine zo ?_; refine zq ?_; (conv => rhs; simp only [Nf.all, Nat.reduceBEq, reduceAdd, reduceSub]); refine zm ?_; refine zs ?_; refine zd ?_; refine AW.cond_lt rfl rfl ?_; refine zq ?_; (conv => rhs; simp only [Nf.all, Nat.reduceBEq, reduceAdd, reduceSub]); refine za ?_; refine zd ?_; refine AW.ret ?_; refine thenD_ret ?_)
    all_goals (apply ends_ret; (exact Res.one (.tmp rfl rfl)); (exact Le.pv _))
  · rw [k2] at hso
    have hks : k < so.length := by omega
    have hff := first_fn at' st k h.sm (by omega)
    have hb := h.each _ (List.getElem_mem k1)
    have hbt := h.sm.take k
    rw [getD_at k1] at k4
    have hi := itoa_fn (x - (at'.take k).sum) (by omega)
    have e : nameF so at' x = so[k].1 ++ ⟨#[36]⟩ ++ numS (x - (at'.take k).sum) := by
      unfold nameF
      rw [if_pos (by rw [k2]; omega), k2, Int.toNat_natCast, List.getD_eq_getElem?_getD, List.getElem?_eq_getElem hks]
      rfl
    rw [e]
    have z1 := hz _ (List.getElem_mem hks)
    have z2 : (ByteArray.mk #[36]).size = 1 := rfl
    have z3 := numS_size (z := x - (at'.take k).sum) (by omega)
    generalize numS (x - (at'.take k).sum) = nm at hi z3 ⊢
    generalize (at'.take k).sum = f at hff hi hbt k3 k4 ⊢
    refine Fn.enter (n := 27) Tryd.func14 rfl rfl rfl rfl rfl (by decide) fun g hro_ hwt_ => ?_; (try (conv => rhs; simp only [Nf.all, Nat.reduceBEq, reduceAdd, reduceSub]))
    (refine zq ?_; refine AOps.box rfl rfl rfl rfl ?_; (conv => rhs; simp only [Nf.all, Nat.reduceBEq, reduceAdd, reduceSub]); refine AOps.box rfl rfl rfl rfl ?_; (conv => rhs; simp only [Nf.all, Nat.reduceBEq, reduceAdd, reduceSub]); refine za ?_; refine zd ?_; refine zq ?_; (conv => rhs; simp only [Nf.all, Nat.reduceBEq, reduceAdd, reduceSub]); refine AOps.load_ball rfl rfl rfl rfl rfl ?_; (conv => rhs; simp only [Nf.all, Nat.reduceBEq, reduceAdd, reduceSub]); refine zm ?_; (with_reducible apply AOps.call (hso)); (repeat (first | exact .nil | (refine .cons rfl ?_ ?_; (first | exact .pv _ | exact .own _ _ _ _ rfl | exact .nil _ | exact .any _ | exact .rptr _ | (refine .aggL ?_; repeat (first | exact .nil | (refine .cons ?_ ?_; (first | exact .pv _ | exact .own _ _ _ _ rfl | exact .nil _)))))))); exact rfl; exact rfl; exact (fun h_ => by cases h_); refine za ?_; refine zd ?_; refine zo ?_; refine zq ?_; (conv => rhs; simp only [Nf.all, Nat.reduceBEq, reduceAdd, reduceSub]); refine zm ?_; refine zs ?_; refine zd ?_; refine AW.cond_lf rfl rfl ?_; refine AW.skip ?_; refine thenD_n ?_; refine zo ?_; (with_reducible apply AW.regionQ); exact rfl; exact rfl; kernel_rfl; (with_reducible assumption); refine AOps.fieldAddrN 27 0 0 rfl rfl rfl rfl ?_; refine zb ?_; refine zm ?_; (focus ((with_reducible apply AOps.index_map); (iterate 7 exact rfl); rotate_left; omega)); refine AOps.fieldAddr_rN 53 0 0 1 rfl rfl rfl rfl ?_; (conv => rhs; simp only [Nf.all, Nat.reduceBEq, reduceAdd, reduceSub]); refine zr ?_; (with_reducible apply AOps.catS); (iterate 5 exact rfl); (first | omega | decide | (simp only [ByteArray.size_append]; omega)); refine zm ?_; refine AOps.load_ball rfl rfl rfl rfl rfl ?_; (conv => rhs; simp only [Nf.all, Nat.reduceBEq, reduceAdd, reduceSub]); refine zm ?_; (with_reducible apply AOps.call (hff)); (repeat (first | exact .nil | (refine .cons rfl ?_ ?_; (first | exact .pv _ | exact .own _ _ _ _ rfl | exact .nil _ | exact .any _ | exact .rptr _ | (refine .aggL ?_; repeat (first | exact .nil | (refine .cons ?_ ?_; (first | exact .pv _ | exact .own _ _ _ _ rfl | exact .nil _)))))))); exact rfl; exact rfl; exact (fun h_ => by cases h_); refine AOps.sub rfl rfl rfl rfl rfl (by omega) ?_; (with_reducible apply AOps.call (hi)); (repeat (first | exact .nil | (refine .cons rfl ?_ ?_; (first | exact .pv _ | exact .own _ _ _ _ rfl | exact .nil _ | exact .any _ | exact .rptr _ | (refine .aggL ?_; repeat (first | exact .nil | (refine .cons ?_ ?_; (first | exact .pv _ | exact .own _ _ _ _ rfl | exact .nil _)))))))); exact rfl; exact rfl; exact (fun h_ => by cases h_); (with_reducible apply AOps.catS); (iterate 5 exact rfl); (first | omega | decide | (simp only [ByteArray.size_append]; omega)); refine za ?_; refine zd ?_; refine AW.ret ?_)
    all_goals (apply ends_ret; (exact Res.one (.tmp rfl rfl)); (exact Le.pv _))
end Go.Ab
