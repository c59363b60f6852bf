/- Chapter 19: the names of numbers and clauses, walked. -/
import Derived.Test.YtbkjdmjiecncgaaDoorAnC7
import Derived.Test.YtbkjdmjiecncgaaDoorAbL2
import Derived.Test.YtbkjdmjiecncgaaDoorAnA4
import Derived.Test.YtbkjdmjiecncgaaDoorAnSO
import Derived.Test.YtbkjdmjiecncgaaDoorAbL3
import Derived.Lib.AppendIntMem
set_option linter.unusedSimpArgs false
set_option linter.unusedVariables false
namespace Go.Ab
open Go Go.Proofs Go.RowKit
open Nat (reduceAdd reduceSub)
set_option maxRecDepth 20000
set_option maxHeartbeats 4000000
/-- the table of the powers of ten is laid. -/
def tabT (w : World) : Prop := Lib.TabIs Tryd.prog w "internal/strconv.uint64pow10" .u64 Lib.pow10Tab
theorem tabT_stay : Stay tabT := fun w w' h hb => Lib.tabBelow_of_tabIs h w' hb
def itoaB (n : Int) : ByteArray := ⟨(Lib.itoa n).toArray⟩
theorem dec_len : ∀ (k u : Nat), u < 10 ^ k → (Lib.decDigits u).length ≤ k + 1
  | 0, u, h => by
    have : u = 0 := by omega
    subst this
    rw [Lib.decDigits]; simp
  | k + 1, u, h => by
    rw [Lib.decDigits]
    split
    · simp
    · have := dec_len k (u / 10) (by rw [Nat.pow_succ] at h; omega)
      rw [List.length_append]; simp; omega
theorem itoa_len {n : Int} (h : -1000000000 < n ∧ n < 1000000000) : (Lib.itoa n).length ≤ 11 := by
  unfold Lib.itoa
  split
  · have := dec_len 9 n.natAbs (by omega)
    simp only [List.length_cons]; omega
  · have := dec_len 9 n.toNat (by omega)
    omega
theorem itoaN_fn {n : Int} (h : -1000000000 < n ∧ n < 1000000000) : FnW tabT Tryd.prog 58 [litI n] (litS (itoaB n)) where
  enters := enters_of Tryd.func58 rfl (by decide)
  calls := by
    intro N w vals hT hN hs hargs
    have hs : vals.size = 1 := hs
    obtain ⟨v0, rfl⟩ : ∃ v0, vals = #[v0] := by
      rcases vals with ⟨_ | ⟨v0, _ | _⟩⟩ <;> simp at hs
      exact ⟨v0, rfl⟩
    have h0 := (hargs 0 v0 _ rfl rfl).lit
    subst h0
    exact (Tryd.strconv_Itoa n (by omega) (by omega) w hT).mono fun e w' ⟨he, k, os, hw⟩ => ⟨_, he, .pv (.lit _), hw ▸ Lib.below_grow w.heap.size w (Nat.le_refl _) k os⟩
abbrev strP (s : ByteArray) : PV := .lit (.string s)
theorem joinB_eq : ∀ ws : List (List UInt8), Lib.join ws [32] = joinB 32 ws
  | [] => rfl
  | [x] => by rw [Lib.join_one]; rfl
  | x :: y :: r => by
    rw [Lib.join_cons, joinB, ← joinB_eq (y :: r), Lib.join_cons]
    simp [Lib.joinTail]
theorem joinB_len {m : Nat} : ∀ ws : List (List UInt8), (∀ x ∈ ws, x.length ≤ m) → (joinB 32 ws).length ≤ ws.length * (m + 1)
  | [], _ => by simp [joinB]
  | [x], h => by have := h x (by simp); simp [joinB]; omega
  | x :: y :: r, h => by
    have h1 := h x (by simp)
    have h2 := joinB_len (y :: r) fun z hz => h z (by simp [hz])
    rw [joinB, List.length_append, List.length_cons, List.length_cons, Nat.succ_mul]
    omega
theorem join_fn (ws : List (List UInt8)) (hl : ws.length ≤ 1000000) (hw : ∀ x ∈ ws, x.length ≤ 11) : Fn Tryd.prog 59 [.pv (.slice 1 (ws.map fun x => [strP ⟨x.toArray⟩])), litS ⟨#[32]⟩] (litS ⟨(joinB 32 ws).toArray⟩) where
  enters := enters_of Tryd.func59 rfl (by decide)
  calls := by
    intro N w vals hN hs hargs
    have hs : vals.size = 2 := hs
    obtain ⟨v0, v1, rfl⟩ : ∃ v0 v1, vals = #[v0, v1] := by
      rcases vals with ⟨_ | ⟨v0, _ | ⟨v1, _ | _⟩⟩⟩ <;> simp at hs
      exact ⟨v0, v1, rfl⟩
    have h0 := hargs 0 v0 _ rfl rfl
    have h1 := (hargs 1 v1 _ rfl rfl).lit
    subst h1
    have h0 := h0.pv_inv
    cases h0 with
    | @slice a len cap k els b off vs hln hcap hb ha hk hc hr =>
      rw [List.length_map] at hln
      subst hln
      by_cases hnil : ws = []
      · subst hnil
        exact (Tryd.strings_Join_none a cap ⟨#[32]⟩ w).mono fun e w' ⟨he, hw⟩ => ⟨_, he, .pv (.lit _), hw ▸ Below.refl _ _⟩
      · have hab := ha (by simpa using hnil)
        obtain ⟨rfl, _, hbk⟩ := hab
        let xs : List ByteArray := ws.map fun x => ⟨x.toArray⟩
        have hxl : xs.length = ws.length := by simp [xs]
        have hxs : xs.map (·.data.toList) = ws := by simp [xs, Function.comp_def]
        have hcell : ∀ (j : Nat) x, xs[j]? = some x → w.cell? ⟨b, off + j, none⟩ = some (.string x) := by
          intro j x hj
          have hp : cellAt (ws.map fun x => [strP ⟨x.toArray⟩]) j 0 = some (strP x) := by
            simp only [xs, List.getElem?_map, Option.map_eq_some_iff] at hj
            obtain ⟨y, hy, rfl⟩ := hj
            simp [cellAt, encS, hy]
          have h2 := hr j 0 _ hp
          have h3 := (hc j 0 _ hp).1
          generalize vs j 0 = u at h2 h3
          cases h2
          rw [Nat.mul_one, Nat.add_zero] at h3
          exact h3
        have e32 : (⟨#[32]⟩ : ByteArray).data.toList = [32] := rfl
        have hjl := joinB_len ws hw
        have hj := Tryd.strings_Join b off cap xs ⟨#[32]⟩ w hcell hbk (by omega) (by omega) (by rw [hxs, e32, joinB_eq]; omega)
        rw [hxs, hxl, e32, joinB_eq] at hj
        exact hj.mono fun e w' ⟨he, hb⟩ => ⟨_, he, .pv (.lit _), hb⟩
attribute [local irreducible] AW AOps thenD inBlockD AR iterEnds roundEndsN inlEnds noGotoD canon idxI litG needM sortL joinB
theorem clone_fnO (l : List Int) (hl : l.length ≤ 1000000) : FnO Tryd.prog 57 [.pv (ints l)] 3 1 (l.map nI) := by
  rw [show l.map nI = l.map encI from rfl]
  refine FnO.enter (n := 8) Tryd.func57 rfl rfl rfl rfl rfl (by decide) fun g hro_ hwt_ => ?_; (try (conv => rhs; simp only [Nf.all, Nat.reduceBEq, reduceAdd, reduceSub]))
  by_cases h0 : l = []
  · subst h0
    have e0 : ([] : List Int).length = 0 := rfl
    (refine zq ?_; refine za ?_; refine zd ?_; refine zo ?_; refine zq ?_; (conv => rhs; simp only [Nf.all, Nat.reduceBEq, reduceAdd, reduceSub]); refine zm ?_; (focus ((with_reducible apply AOps.eqlNil); (iterate 6 exact rfl); all_goals intro hc_)); refine zd ?_; refine AW.cond_lt rfl rfl ?_; refine zq ?_; (conv => rhs; simp only [Nf.all, Nat.reduceBEq, reduceAdd, reduceSub]); refine za ?_; refine zd ?_; refine AW.ret ?_; refine thenD_ret ?_; (all_goals skip); rotate_left; refine zd ?_; refine AW.cond_lf rfl rfl ?_; refine AW.skip ?_; refine thenD_n ?_; refine zq ?_; (conv => rhs; simp only [Nf.all, Nat.reduceBEq, reduceAdd, reduceSub]); refine AOps.bs0 rfl rfl rfl rfl rfl ?_; (conv => rhs; simp only [Nf.all, Nat.reduceBEq, reduceAdd, reduceSub]); refine zm ?_; (with_reducible apply AOps.appendS); exact rfl; (first | exact .pv rfl | exact .own rfl | exact .nil rfl); (iterate 9 exact rfl); (first | omega | (simp only [List.length_map, List.length_append, List.length_cons, List.length_nil, List.length_drop, List.length_take, chunk_len]; omega)); (conv => rhs; simp only [Nf.all, Nat.reduceBEq, reduceAdd, reduceSub]); refine AOps.assign_own rfl rfl rfl ?_; refine zd ?_; refine AW.ret ?_; (all_goals skip); rotate_left)
    all_goals ((first | (refine endsO_ret (Res.one (.tmp rfl rfl)) ?_) | (refine endsO_ret (Res.one (.cell1 rfl rfl rfl rfl)) ?_) | (refine endsO_nil (Res.one (.tmp rfl rfl)) ?_)); (first | rfl | simp))
  · have e0 : 0 < l.length := List.length_pos_iff.2 h0
    have e1 : ¬ l.map encI = [] := by simpa using h0
    clear h0
    (refine zq ?_; refine za ?_; refine zd ?_; refine zo ?_; refine zq ?_; (conv => rhs; simp only [Nf.all, Nat.reduceBEq, reduceAdd, reduceSub]); refine zm ?_; (focus ((with_reducible apply AOps.eqlNil); (iterate 6 exact rfl); all_goals intro hc_)); refine zd ?_; refine AW.cond_lt rfl rfl ?_; refine zq ?_; (conv => rhs; simp only [Nf.all, Nat.reduceBEq, reduceAdd, reduceSub]); refine za ?_; refine zd ?_; refine AW.ret ?_; refine thenD_ret ?_; (all_goals skip); rotate_left; refine zd ?_; refine AW.cond_lf rfl rfl ?_; refine AW.skip ?_; refine thenD_n ?_; refine zq ?_; (conv => rhs; simp only [Nf.all, Nat.reduceBEq, reduceAdd, reduceSub]); refine AOps.bs0 rfl rfl rfl rfl rfl ?_; (conv => rhs; simp only [Nf.all, Nat.reduceBEq, reduceAdd, reduceSub]); refine zm ?_; (with_reducible apply AOps.appendS); exact rfl; (first | exact .pv rfl | exact .own rfl | exact .nil rfl); (iterate 9 exact rfl); (first | omega | (simp only [List.length_map, List.length_append, List.length_cons, List.length_nil, List.length_drop, List.length_take, chunk_len]; omega)); (conv => rhs; simp only [Nf.all, Nat.reduceBEq, reduceAdd, reduceSub]); refine AOps.assign_own rfl rfl rfl ?_; refine zd ?_; refine AW.ret ?_; (all_goals skip); rotate_left)
    · exact absurd hc_ e1
    · ((first | (refine endsO_ret (Res.one (.tmp rfl rfl)) ?_) | (refine endsO_ret (Res.one (.cell1 rfl rfl rfl rfl)) ?_) | (refine endsO_nil (Res.one (.tmp rfl rfl)) ?_)); (first | rfl | simp))
theorem word_of (c : List Int) (l : List Int) (h : ∀ x ∈ c, -1000000000 < x ∧ x < 1000000000) (hs : ∀ x, x ∈ l ↔ x ∈ c) : ∀ x ∈ l.map Lib.itoa, x.length ≤ 11 := fun x hx => by
  obtain ⟨n, hn, rfl⟩ := List.mem_map.1 hx
  exact itoa_len (h n ((hs n).1 hn))
def wordR (x : Int) : List PV := [strP (itoaB x)]
theorem key_fn (c : List Int) (hl : c.length ≤ 1000000) (h : ∀ x ∈ c, -1000000000 < x ∧ x < 1000000000) : FnW tabT Tryd.prog 43 [.pv (ints c)] (litS (keyB c)) := by
  have hstay_ := tabT_stay
  have hcl := clone_fnO c (by omega)
  unfold keyB keyL
  have hsl : (sortL c).length = c.length := by simp [sortL]
  have hw := word_of c (sortL c) h (fun x => sort_mem)
  have hj := join_fn ((sortL c).map Lib.itoa) (by simp; omega) hw
  have hwr : ((sortL c).map Lib.itoa).map (fun x => [strP ⟨x.toArray⟩]) = (sortL c).map wordR := by rw [List.map_map]; rfl
  rw [hwr] at hj
  refine FnW.enter hstay_ (n := 25) Tryd.func43 rfl rfl rfl rfl rfl (by decide) fun g hro_ hwt_ hT => ?_; (try (conv => rhs; simp only [Nf.all, Nat.reduceBEq, reduceAdd, reduceSub]))
  (refine zq ?_; refine za ?_; refine zd ?_; refine zq ?_; (conv => rhs; simp only [Nf.all, Nat.reduceBEq, reduceAdd, reduceSub]); refine zm ?_; (with_reducible apply AOps.calloD (hcl)); exact lits_map (fun _ => ⟨_, rfl⟩) _; (repeat (first | exact .nil | (refine .cons rfl ?_ ?_; (first | exact .pv _ | exact .own _ _ _ _ rfl | exact .nil _ | exact .any _ | exact .rptr _ | (refine .aggL ?_; repeat (first | exact .nil | (refine .cons ?_ ?_; (first | exact .pv _ | exact .own _ _ _ _ rfl | exact .nil _)))))))); exact rfl; (conv => rhs; simp only [Nf.all, Nat.reduceBEq, reduceAdd, reduceSub]); refine AOps.assign_own rfl rfl rfl ?_; refine zd ?_; refine zq ?_; (conv => rhs; simp only [Nf.all, Nat.reduceBEq, reduceAdd, reduceSub]); refine AOps.move_own rfl rfl rfl ?_; (try (conv => rhs; simp only [Nf.all, Nat.reduceBEq, reduceAdd, reduceSub])); refine AOps.rowC (sort_rowC) [9, 3, 8] rfl ⟨rfl, rfl, rfl, trivial⟩ rfl rfl rfl ?_; (conv => rhs; simp only [Nf.rwR, Nf.all, Nat.reduceBEq, reduceAdd, reduceSub]); refine zd ?_; refine zq ?_; refine za ?_; refine zd ?_; refine zo ?_; refine zq ?_; (conv => rhs; simp only [Nf.all, Nat.reduceBEq, reduceAdd, reduceSub]); refine AOps.move_own rfl rfl rfl ?_; refine AOps.len_own_map rfl rfl rfl rfl ?_; refine zm ?_; refine zd ?_; refine AW.block ?_)
  have hm : ∀ x, x ∈ sortL c → x ∈ c := fun x => sort_mem.1
  generalize sortL c = L at hsl hw hj hm
  ((conv => rhs; simp only [Nf.all, Nat.reduceBEq, reduceAdd, reduceSub]); apply AW.loopR [12, 11, 2] [0] (fun k : Nat => ([(4, .own 1 9 1 ((L.take k).map wordR)), (13, litI k)] : List (Nat × AV))) (fun k : Nat => ([(1, some .row)] : List (Nat × Option Ob))) (fun k : Nat => k ≤ L.length) (fun k : Nat => L.length - k) (0); (conv => lhs; simp only [Nf.lpR, Nf.all, Nat.reduceBEq, reduceAdd, reduceSub]); (all_goals skip))
  · exact Nat.zero_le _
  · exact weak rfl (by (refine ⟨.nilown _ _ _ rfl rfl, ?_⟩; (iterate 4 refine ⟨.eq rfl rfl, ?_⟩); exact trivial)) (by (refine ⟨.newrow rfl, ?_⟩; refine ⟨.row rfl, ?_⟩; exact trivial)) rfl
  rintro k hk
  by_cases hlt : k < L.length
  · have hi := itoaN_fn (h _ (hm _ (List.getElem_mem hlt)))
    have hsn : (L.take (k + 1)).map wordR = (L.take k).map wordR ++ [wordR L[k]] := by rw [take_succ_get hlt, List.map_append]; rfl
    (refine zq ?_; refine zs ?_; refine zd ?_; refine zo ?_; refine zc ?_; refine AW.skip ?_; refine thenD_n ?_; refine zo ?_; refine AW.block ?_; refine zq ?_; (conv => rhs; simp only [Nf.all, Nat.reduceBEq, reduceAdd, reduceSub]); refine AOps.index_own_mapN rfl rfl rfl rfl rfl rfl rfl (by omega) ?_; (focus ((with_reducible apply AOps.load_o1_mapI); (iterate 4 exact rfl); exact (fun h_ => by cases h_); rotate_left; (first | omega | exact Nat.zero_lt_one | exact (by simp)))); refine za ?_; refine zd ?_; refine AW.region ?_; (conv => rhs; simp only [Nf.all, Nat.reduceBEq, reduceAdd, reduceSub]); refine AOps.move_own rfl rfl rfl ?_; refine zm ?_; (with_reducible apply AOps.callWp (hf := hi)); (first | (with_reducible assumption) | (refine TB.gs ?_ (by with_reducible assumption); with_reducible assumption) | (refine TB.gi ?_ (by with_reducible assumption); with_reducible assumption) | exact TB.none _); (repeat (first | exact .nil | (refine .cons rfl ?_ ?_; (first | exact .pv _ | exact .own _ _ _ _ rfl | exact .nil _ | exact .any _ | exact .rptr _ | (refine .aggL ?_; repeat (first | exact .nil | (refine .cons ?_ ?_; (first | exact .pv _ | exact .own _ _ _ _ rfl | exact .nil _)))))))); exact rfl; refine AOps.bs1 rfl rfl rfl rfl rfl rfl rfl rfl ?_; (conv => rhs; simp only [Nf.all, Nat.reduceBEq, reduceAdd, reduceSub]); (with_reducible apply AOps.appendS); exact rfl; (first | exact .pv rfl | exact .own rfl | exact .nil rfl); (iterate 9 exact rfl); (first | omega | (simp only [List.length_map, List.length_append, List.length_cons, List.length_nil, List.length_drop, List.length_take, chunk_len]; omega)); (conv => rhs; simp only [Nf.all, Nat.reduceBEq, reduceAdd, reduceSub]); refine AOps.assign_own rfl rfl rfl ?_; refine AOps.nil ?_; refine inBlockD_n ?_; refine thenD_n ?_; refine AW.region ?_; (conv => rhs; simp only [Nf.all, Nat.reduceBEq, reduceAdd, reduceSub]); refine AOps.add rfl rfl rfl rfl rfl (by omega) ?_; refine zm ?_; refine zd ?_)
    exact ⟨k + 1, by omega, by omega, weak rfl (by (refine ⟨.ownE (by first | with_reducible rfl | (first | rfl | (rw [hsn]; rfl))) rfl, ?_⟩; refine ⟨.intE (by first | with_reducible rfl | (first | rfl | (rw [hsn]; rfl))), ?_⟩; refine ⟨.intE (by first | with_reducible rfl | (first | rfl | (rw [hsn]; rfl))), ?_⟩; refine ⟨.ownE (by first | with_reducible rfl | (first | rfl | (rw [hsn]; rfl))) rfl, ?_⟩; refine ⟨.eq rfl rfl, ?_⟩; exact trivial)) (by (refine ⟨.row rfl, ?_⟩; refine ⟨.row rfl, ?_⟩; exact trivial)) rfl⟩
  · rw [take_all (l := L) (by omega)]
    (refine zq ?_; refine zs ?_; refine zd ?_; refine zo ?_; refine zk ?_; refine AW.exit ?_; (iterate 2 refine thenD_exit ?_); refine inBlockD_exit ?_; refine thenD_n ?_; refine zq ?_; (conv => rhs; simp only [Nf.all, Nat.reduceBEq, reduceAdd, reduceSub]); refine AOps.move_own rfl rfl rfl ?_; (with_reducible apply AOps.call (hj)); (repeat (first | exact .nil | (refine .cons rfl ?_ ?_; (first | exact .pv _ | exact .own _ _ _ _ rfl | exact .nil _ | exact .any _ | exact .rptr _ | (refine .aggL ?_; repeat (first | exact .nil | (refine .cons ?_ ?_; (first | exact .pv _ | exact .own _ _ _ _ rfl | exact .nil _)))))))); exact rfl; exact rfl; exact (fun h_ => by cases h_); refine za ?_; refine zd ?_; refine AW.ret ?_)
    (apply ends_ret; (exact Res.one (.tmp rfl rfl)); (exact Le.pv _))
end Go.Ab
