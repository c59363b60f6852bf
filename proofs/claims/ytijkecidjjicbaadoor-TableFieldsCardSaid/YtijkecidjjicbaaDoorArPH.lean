/- Chapter 07: states and models held against each other; the next state, the state at a time. -/
import Derived.Test.YtijkecidjjicbaaDoorArM2
import Derived.Test.YtijkecidjjicbaaDoorAbZ
import Derived.Test.YtijkecidjjicbaaDoorAbL3
import Derived.Test.YtijkecidjjicbaaDoorAbL2
import Derived.Test.YtijkecidjjicbaaDoorArS
import Derived.Test.YtijkecidjjicbaaDoorAbL4
set_option linter.unusedSimpArgs false
set_option linter.unusedVariables false
namespace Go.Ab
open Go Go.Proofs
set_option maxRecDepth 20000
set_option maxHeartbeats 2000000
attribute [local irreducible] AW AOps thenD inBlockD AR iterEnds roundEndsN inlEnds
theorem rSame_fn (a b : List RelM) : Fn Tryd.prog 28 [.pv (rels a), .pv (rels b)] (litB (decide (a = b))) := by
  refine Fn.enter (n := 27) Tryd.func28 rfl rfl rfl rfl rfl (by decide) fun g hro_ hwt_ => ?_; (try refine nz ?_)
  refine AW.len_map 0 rfl fun hlen => ?_
  by_cases hab : a.length = b.length
  · (refine j201 ?_; refine j89 ?_; refine j187 ?_)
    refine AW.loop (fun (k : Nat) => { n := 27, env := [(0, .pv (rels a)), (1, .pv (rels b)), (5, litI k)], objs := [], nx := 0 }) (fun k => k ≤ a.length ∧ a.take k = b.take k) (fun k => a.length - k) 0 ?_ ?_ ?_
    · simp
    · exact weak rfl (by (refine ⟨.eq rfl rfl, ?_⟩; (iterate 2 refine ⟨.eq rfl rfl, ?_⟩); exact trivial)) (by (exact trivial)) rfl
    rintro k ⟨hk, hno⟩
    by_cases hlt : k < a.length
    · have hlt2 : k < b.length := by omega
      have he := rEqual_fn a[k] b[k]
      by_cases heq : a[k] = b[k]
      · rw [decide_eq_true heq] at he
        (refine j180 ?_; refine zn ?_; refine j3 ?_; refine zo ?_)
        refine AW.regionE [0,1,2,3,4,5,6,7] [] rfl (by assumption) (by kernel_rfl) rfl ?_
        show AOps .held _ _ _ [_, _, _, _, _, _, _, _] _ _
        ((iterate 2 refine zm ?_); (focus ((with_reducible apply AOps.index_map); (iterate 7 exact rfl); rotate_left; omega)); refine j251 ?_; (iterate 2 refine zm ?_); (focus ((with_reducible apply AOps.index_map); (iterate 7 exact rfl); rotate_left; omega)); refine j251 ?_; refine j5 ?_)
        intro k_ hk_
        (try refine nz ?_)
        refine AR.step1 (i := 8) rfl (by kernel_rfl) rfl ?_
        intro g_ hgro_ hw_
        
        (refine AOps.call (he) (.cons rfl (.aggL (.cons (.pv _) (.cons (.pv _) .nil))) (.cons rfl (.aggL (.cons (.pv _) (.cons (.pv _) .nil))) .nil)) rfl rfl (fun h_ => by cases h_) ?_; refine j5 ?_)
        refine AR.step1 (i := 9) rfl (by kernel_rfl) rfl ?_
        intro g_ hgro_ hw_
        (refine j296 ?_)
        refine AR.done (by assumption) (by kernel_rfl) ?_
        (refine thenD_n ?_; refine j70 ?_; refine j78 ?_)
        exact ⟨k + 1, ⟨by omega, eq_step hno hlt hlt2 heq⟩, by omega, weak rfl (by (refine ⟨.eq rfl rfl, ?_⟩; (iterate 2 refine ⟨.eq rfl rfl, ?_⟩); exact trivial)) (by (exact trivial)) rfl⟩
      · rw [decide_eq_false heq] at he
        have hne : ¬ a = b := by rintro rfl; exact heq rfl
        (refine j180 ?_; refine zn ?_; refine j3 ?_; refine zo ?_)
        refine AW.regionE [0,1,2,3,4,5,6,7] [] rfl (by assumption) (by kernel_rfl) rfl ?_
        show AOps .held _ _ _ [_, _, _, _, _, _, _, _] _ _
        ((iterate 2 refine zm ?_); (focus ((with_reducible apply AOps.index_map); (iterate 7 exact rfl); rotate_left; omega)); refine j251 ?_; (iterate 2 refine zm ?_); (focus ((with_reducible apply AOps.index_map); (iterate 7 exact rfl); rotate_left; omega)); refine j251 ?_; refine j5 ?_)
        intro k_ hk_
        (try refine nz ?_)
        refine AR.step1 (i := 8) rfl (by kernel_rfl) rfl ?_
        intro g_ hgro_ hw_
        
        (refine AOps.call (he) (.cons rfl (.aggL (.cons (.pv _) (.cons (.pv _) .nil))) (.cons rfl (.aggL (.cons (.pv _) (.cons (.pv _) .nil))) .nil)) rfl rfl (fun h_ => by cases h_) ?_; refine j5 ?_)
        refine AR.step1 (i := 9) rfl (by kernel_rfl) rfl ?_
        intro g_ hgro_ hw_
        (refine j296 ?_)
        refine AR.done (by assumption) (by kernel_rfl) ?_
        (refine thenD_n ?_; refine AW.cond_lt rfl rfl ?_; refine j182 ?_)
        (apply ends_ret; (exact Res.one (.tmp rfl rfl)); (refine Le.litB ?_; (rw [eq_comm, decide_eq_false_iff_not]; exact hne)))
    · have he : a = b := eq_at_end hab hno hlt
      (refine j180 ?_; refine j246 ?_)
      (apply ends_ret; (exact Res.one (.tmp rfl rfl)); (refine Le.litB ?_; (rw [eq_comm, decide_eq_true_iff]; exact he)))
  · have hne : ¬ a = b := by rintro rfl; exact hab rfl
    (refine j201 ?_; refine j303 ?_)
    (apply ends_ret; (exact Res.one (.tmp rfl rfl)); (refine Le.litB ?_; (rw [eq_comm, decide_eq_false_iff_not]; exact hne)))
def idxM (m : ModM) (t : Int) : Int := if t < m.states.length then t else m.loop + (t - m.loop).tmod (m.states.length - m.loop)
end Go.Ab
/- Chapter 07: copies, the state at a time, models held against each other. -/
namespace Go.Ab
open Go Go.Proofs
set_option maxRecDepth 20000
set_option maxHeartbeats 2000000
attribute [local irreducible] AW AOps thenD inBlockD AR iterEnds roundEndsN inlEnds
def SmR (s : List RelM) : Prop := s.length ≤ 100000 ∧ ∀ r ∈ s, r.2.length ≤ 1000000000
structure Lp (m : ModM) : Prop where
  lo : 0 ≤ m.loop
  hi : m.loop < m.states.length
  sm : ∀ s ∈ m.states, SmR s
theorem Lp.idx {m : ModM} (h : Lp m) {t : Int} (ht : 0 ≤ t) : 0 ≤ idxM m t ∧ idxM m t < m.states.length := by
  have h1 := h.lo
  have h2 := h.hi
  unfold idxM
  split
  · omega
  · have h3 : 0 ≤ (t - m.loop).tmod (m.states.length - m.loop) := Int.tmod_nonneg _ (by omega)
    have h4 : (t - m.loop).tmod (m.states.length - m.loop) < m.states.length - m.loop := Int.tmod_lt_of_pos _ (by omega)
    omega
theorem mod_eq (a b : ModM) : decide (a = b) = (decide (a.atoms = b.atoms) && decide (a.steps = b.steps) && decide (a.loop = b.loop) && decide (a.states = b.states)) := by
  obtain ⟨a1, a2, a3, a4⟩ := a
  obtain ⟨b1, b2, b3, b4⟩ := b
  rw [Bool.eq_iff_iff]
  simp only [Bool.and_eq_true, decide_eq_true_eq, ModM.mk.injEq]
  constructor
  · rintro ⟨h1, h2, h3, h4⟩; exact ⟨⟨⟨h1, h2⟩, h4⟩, h3⟩
  · rintro ⟨⟨⟨h1, h2⟩, h4⟩, h3⟩; exact ⟨h1, h2, h3, h4⟩
end Go.Ab
/- Chapter 07: traces of looped models, in plain terms. -/
namespace Go.Ab
open Go Go.Proofs
def idxN (k l t : Nat) : Nat := if t < k then t else l + (t - l) % (k - l)
theorem idxN_small {k l t : Nat} (h : t < k) : idxN k l t = t := if_pos h
theorem idxN_mod {k l t : Nat} (h : l < k) (ht : l ≤ t) : idxN k l t = l + (t - l) % (k - l) := by
  unfold idxN
  split
  · rw [Nat.mod_eq_of_lt (by omega)]; omega
  · rfl
theorem idxN_per {k l t : Nat} (h : l < k) (ht : l ≤ t) (n : Nat) : idxN k l (t + n * (k - l)) = idxN k l t := by
  rw [idxN_mod h (by omega), idxN_mod h ht]
  congr 1
  rw [show t + n * (k - l) - l = (t - l) + n * (k - l) by omega, Nat.add_mul_mod_self_right]
theorem idxN_per1 {k l t : Nat} (h : l < k) (ht : l ≤ t) : idxN k l (t + (k - l)) = idxN k l t := by
  have := idxN_per h ht 1
  rwa [Nat.one_mul] at this
section
variable {α : Type} {d : α}
def Rep (T : Nat → α) (n l : Nat) : Prop := l < n ∧ ∀ t, T t = T (idxN n l t)
theorem Rep.shift {T : Nat → α} {n l : Nat} (h : Rep T n l) (t : Nat) : T (n + t) = T (l + t) := by
  have h1 := h.1
  rw [h.2 (n + t), h.2 (l + t)]
  have := idxN_per1 (t := l + t) h.1 (by omega)
  rw [← this]; congr 2; omega
theorem Rep.of_shift {T : Nat → α} {n l : Nat} (hl : l < n) (h : ∀ t, T (n + t) = T (l + t)) : Rep T n l := by
  refine ⟨hl, fun t => ?_⟩
  induction t using Nat.strongRecOn with
  | _ t ih =>
    by_cases ht : t < n
    · rw [idxN_small ht]
    · have h1 := h (t - n)
      rw [show n + (t - n) = t by omega] at h1
      rw [h1, ih (l + (t - n)) (by omega)]
      have := idxN_per1 (t := l + (t - n)) hl (by omega)
      rw [← this]; congr 2; omega
theorem Rep.less {T : Nat → α} {n l l' : Nat} (h : Rep T n l) (h' : Rep T n l') (hl : l < l') : Rep T l' l :=
  .of_shift hl fun t => by rw [← h'.shift, h.shift]
def Short (T : Nat → α) (n l : Nat) : Prop := Rep T n l ∧ ∀ n' l', Rep T n' l' → n ≤ n'
end
end Go.Ab
/- Chapter 07: models held against each other, the same trace. -/
namespace Go.Ab
open Go Go.Proofs
set_option maxRecDepth 20000
set_option maxHeartbeats 2000000
attribute [local irreducible] AW AOps thenD inBlockD AR iterEnds roundEndsN inlEnds
theorem rEq07_fn (a b : ModM) : Fn Tryd.prog 10 [mdl a, mdl b] (litB (decide (a = b))) := by
  rw [mod_eq]
  obtain ⟨a1, a2, a3, a4⟩ := a
  obtain ⟨b1, b2, b3, b4⟩ := b
  simp only
  have hs := ints_fn a1 b1
  cases h1 : decide (a1 = b1) with
  | false =>
    rw [h1] at hs
    rw [Bool.false_and, Bool.false_and, Bool.false_and]
    refine Fn.enter (n := 58) Tryd.func10 rfl rfl rfl rfl rfl (by decide) fun g hro_ hwt_ => ?_; (try refine nz ?_)
    (refine j67 ?_; (iterate 2 refine j115 ?_); refine AOps.call (hs) (.cons rfl (.pv _) (.cons rfl (.pv _) .nil)) rfl rfl (fun h_ => by cases h_) ?_; refine j112 ?_; refine j136 ?_; refine j122 ?_; refine j222 ?_; refine j122 ?_; refine j136 ?_; refine j48 ?_)
    (apply ends_ret; (exact Res.one (.tmp rfl rfl)); (refine Le.litB ?_; (rfl)))
  | true =>
  rw [h1] at hs
  by_cases h2 : a2 = b2
  · by_cases h4 : a4 = b4
    · rw [decide_eq_true h2, decide_eq_true h4, Bool.true_and, Bool.true_and, Bool.true_and]
      refine Fn.enter (n := 58) Tryd.func10 rfl rfl rfl rfl rfl (by decide) fun g hro_ hwt_ => ?_; (try refine nz ?_)
      refine AW.len_agg 0 2 rfl rfl fun hlen => ?_
      simp only at hlen
      by_cases hab : a3.length = b3.length
      · (refine j67 ?_; (iterate 2 refine j115 ?_); refine AOps.call (hs) (.cons rfl (.pv _) (.cons rfl (.pv _) .nil)) rfl rfl (fun h_ => by cases h_) ?_; refine j252 ?_; refine j51 ?_; (iterate 2 refine j163 ?_); refine j146 ?_; refine j89 ?_; refine j187 ?_)
        refine AW.loop (fun (k : Nat) => { n := 58, env := [(2, .ptr 0 0), (3, .ptr 1 0), (5, litI k)], objs := [(0, some (.box [.pv (ints a1), litI a2, .pv (stts a3), litI a4])), (1, some (.box [.pv (ints b1), litI b2, .pv (stts b3), litI b4]))], nx := 2 }) (fun k => k ≤ a3.length ∧ a3.take k = b3.take k) (fun k => a3.length - k) 0 ?_ ?_ ?_
        · simp
        · exact weak rfl (by (refine ⟨.eq rfl rfl, ?_⟩; (iterate 2 refine ⟨.eq rfl rfl, ?_⟩); exact trivial)) (by (refine ⟨.box _ rfl ?_, ?_⟩; (iterate 4 refine ⟨.eq rfl rfl, ?_⟩); exact trivial; refine ⟨.box _ rfl ?_, ?_⟩; (iterate 4 refine ⟨.eq rfl rfl, ?_⟩); (iterate 2 exact trivial))) rfl
        rintro k ⟨hk, hno⟩
        by_cases hlt : k < a3.length
        · have hlt2 : k < b3.length := by omega
          have he := rSame_fn a3[k] b3[k]
          by_cases heq : a3[k] = b3[k]
          · rw [decide_eq_true heq] at he
            (refine j109 ?_; refine zo ?_; refine j82 ?_; refine j309 ?_; (focus ((with_reducible apply AOps.index_map); (iterate 7 exact rfl); rotate_left; omega)); refine zr ?_; refine j309 ?_; (focus ((with_reducible apply AOps.index_map); (iterate 7 exact rfl); rotate_left; omega)); refine zr ?_; refine AOps.call (he) (.cons rfl (.pv _) (.cons rfl (.pv _) .nil)) rfl rfl (fun h_ => by cases h_) ?_; refine j199 ?_; refine j78 ?_)
            exact ⟨k + 1, ⟨by omega, eq_step hno hlt hlt2 heq⟩, by omega, weak rfl (by (refine ⟨.eq rfl rfl, ?_⟩; (iterate 2 refine ⟨.eq rfl rfl, ?_⟩); exact trivial)) (by (refine ⟨.box _ rfl ?_, ?_⟩; (iterate 4 refine ⟨.eq rfl rfl, ?_⟩); exact trivial; refine ⟨.box _ rfl ?_, ?_⟩; (iterate 4 refine ⟨.eq rfl rfl, ?_⟩); (iterate 2 exact trivial))) rfl⟩
          · rw [decide_eq_false heq] at he
            have hne : ¬ a3 = b3 := by rintro rfl; exact heq rfl
            (refine j109 ?_; refine zo ?_; refine j82 ?_; refine j309 ?_; (focus ((with_reducible apply AOps.index_map); (iterate 7 exact rfl); rotate_left; omega)); refine zr ?_; refine j309 ?_; (focus ((with_reducible apply AOps.index_map); (iterate 7 exact rfl); rotate_left; omega)); refine zr ?_; refine AOps.call (he) (.cons rfl (.pv _) (.cons rfl (.pv _) .nil)) rfl rfl (fun h_ => by cases h_) ?_; refine AOps.not rfl rfl rfl ?_; refine j245 ?_)
            (apply ends_ret; (exact Res.one (.tmp rfl rfl)); (refine Le.litB ?_; (rw [eq_comm, decide_eq_false_iff_not]; exact hne)))
        · have he : a3 = b3 := eq_at_end hab hno hlt
          (refine j54 ?_; refine j19 ?_; refine j246 ?_)
          (apply ends_ret; (exact Res.one (.tmp rfl rfl)); (refine Le.litB ?_; (rw [eq_comm, decide_eq_true_iff]; exact he)))
      · have hne : ¬ a3 = b3 := by rintro rfl; exact hab rfl
        (refine j67 ?_; (iterate 2 refine j115 ?_); refine AOps.call (hs) (.cons rfl (.pv _) (.cons rfl (.pv _) .nil)) rfl rfl (fun h_ => by cases h_) ?_; refine j252 ?_; refine j51 ?_; (iterate 2 refine j163 ?_); refine j146 ?_; refine j303 ?_)
        (apply ends_ret; (exact Res.one (.tmp rfl rfl)); (refine Le.litB ?_; (rw [eq_comm, decide_eq_false_iff_not]; exact hne)))
    · rw [decide_eq_true h2, decide_eq_false h4, Bool.and_false, Bool.false_and]
      refine Fn.enter (n := 58) Tryd.func10 rfl rfl rfl rfl rfl (by decide) fun g hro_ hwt_ => ?_; (try refine nz ?_)
      (refine j67 ?_; (iterate 2 refine j115 ?_); refine AOps.call (hs) (.cons rfl (.pv _) (.cons rfl (.pv _) .nil)) rfl rfl (fun h_ => by cases h_) ?_; refine j252 ?_; refine j329 ?_; refine j147 ?_)
      all_goals (apply ends_ret; (exact Res.one (.tmp rfl rfl)); (refine Le.litB ?_; (rfl)))
  · rw [decide_eq_false h2, Bool.and_false, Bool.false_and, Bool.false_and]
    refine Fn.enter (n := 58) Tryd.func10 rfl rfl rfl rfl rfl (by decide) fun g hro_ hwt_ => ?_; (try refine nz ?_)
    (refine j67 ?_; (iterate 2 refine j115 ?_); refine AOps.call (hs) (.cons rfl (.pv _) (.cons rfl (.pv _) .nil)) rfl rfl (fun h_ => by cases h_) ?_; refine j112 ?_; refine j47 ?_; refine zb ?_; refine j101 ?_; refine zm ?_; refine j188 ?_; refine j313 ?_; refine j136 ?_; refine j48 ?_)
    all_goals (apply ends_ret; (exact Res.one (.tmp rfl rfl)); (refine Le.litB ?_; (rfl)))
end Go.Ab
/- Chapter 34: names, and what the laws ask of their inputs, walked. -/
namespace Go.Ab
open Go Go.Proofs
open Nat (reduceAdd reduceSub)
set_option maxRecDepth 20000
set_option maxHeartbeats 4000000
def kwL : List Bt := [[115, 111, 114, 116], [111, 114, 100, 101, 114, 101, 100], [118, 97, 114], [102, 105, 101, 108, 100], [112, 114, 101, 100], [102, 97, 99, 116], [97, 108, 108], [115, 111, 109, 101], [110, 111], [111, 110, 101], [108, 111, 110, 101], [97, 108, 119, 97, 121, 115], [101, 118, 101, 110, 116, 117, 97, 108, 108, 121], [97, 102, 116, 101, 114], [117, 110, 116, 105, 108], [110, 111, 110, 101], [117, 110, 105, 118], [105, 100, 101, 110], [105, 110], [110, 111, 116], [116, 114, 117, 101], [102, 97, 108, 115, 101]]
theorem kw_lits : kwL.map (fun k => [PV.lit (.string (mkS k))]) = List.map (fun p => [p]) [PV.lit (Value.string ⟨#[115, 111, 114, 116]⟩), PV.lit (Value.string ⟨#[111, 114, 100, 101, 114, 101, 100]⟩), PV.lit (Value.string ⟨#[118, 97, 114]⟩), PV.lit (Value.string ⟨#[102, 105, 101, 108, 100]⟩), PV.lit (Value.string ⟨#[112, 114, 101, 100]⟩), PV.lit (Value.string ⟨#[102, 97, 99, 116]⟩), PV.lit (Value.string ⟨#[97, 108, 108]⟩), PV.lit (Value.string ⟨#[115, 111, 109, 101]⟩), PV.lit (Value.string ⟨#[110, 111]⟩), PV.lit (Value.string ⟨#[111, 110, 101]⟩), PV.lit (Value.string ⟨#[108, 111, 110, 101]⟩), PV.lit (Value.string ⟨#[97, 108, 119, 97, 121, 115]⟩), PV.lit (Value.string ⟨#[101, 118, 101, 110, 116, 117, 97, 108, 108, 121]⟩), PV.lit (Value.string ⟨#[97, 102, 116, 101, 114]⟩), PV.lit (Value.string ⟨#[117, 110, 116, 105, 108]⟩), PV.lit (Value.string ⟨#[110, 111, 110, 101]⟩), PV.lit (Value.string ⟨#[117, 110, 105, 118]⟩), PV.lit (Value.string ⟨#[105, 100, 101, 110]⟩), PV.lit (Value.string ⟨#[105, 110]⟩), PV.lit (Value.string ⟨#[110, 111, 116]⟩), PV.lit (Value.string ⟨#[116, 114, 117, 101]⟩), PV.lit (Value.string ⟨#[102, 97, 108, 115, 101]⟩)] := rfl
def kwB (s : Bt) : Bool := decide (s ∈ kwL)
def letC (c : Int) : Bool := decide ((97 ≤ c ∧ c ≤ 122) ∨ (65 ≤ c ∧ c ≤ 90))
def okC (s : Bt) (k : Nat) : Bool := letC (byteAt (mkS s) k) || decide (k ≠ 0 ∧ (byteAt (mkS s) k = 95 ∨ (48 ≤ byteAt (mkS s) k ∧ byteAt (mkS s) k ≤ 57)))
def nameB (s : Bt) : Bool := decide (s.length ≠ 0 ∧ s.length ≤ 16) && (!kwB s && (List.range s.length).all (okC s))
attribute [local irreducible] AW AOps thenD inBlockD AR iterEnds roundEndsN inlEnds noGotoD EndsX EndsP mkS byteAt
theorem kw_fn (s : Bt) : Fn Tryd.prog 48 [litS (mkS s)] (litB (kwB s)) := by
  have hlen : kwL.length = 22 := rfl
  obtain ⟨L, hL⟩ : ∃ L, L = kwL := ⟨_, rfl⟩
  unfold kwB
  rw [← hL] at hlen ⊢
  refine Fn.enter (n := 18) Tryd.func48 rfl rfl rfl rfl rfl (by decide) fun g hro_ hwt_ => ?_; (try refine nz ?_)
  (refine j239 ?_; (focus ((with_reducible apply AOps.bsS); (iterate 5 exact rfl); (focus ((repeat ((any_goals (apply PvS.cons)); (all_goals (try exact rfl)))); (any_goals (exact PvS.nil)); done)); exact rfl; exact rfl; (try refine nz ?_))); refine AOps.assign_own rfl rfl rfl ?_; refine zd ?_; refine j187 ?_)
  (refine nz ?_; apply AW.loopR [] [] (fun k : Nat => ([(0, litS (mkS s)), (4, litI k), (3, .own 0 9 1 (L.map fun k => [.lit (.string (mkS k))]))] : List (Nat × AV))) (fun k : Nat => ([(0, some .row)] : List (Nat × Option Ob))) (fun k : Nat => k ≤ 22 ∧ ∀ j (h : j < L.length), j < k → L[j] ≠ s) (fun k : Nat => 22 - k) (0); (conv => lhs; simp only [Nf.lpR, Nf.all, Nat.reduceBEq, reduceAdd, reduceSub]); (all_goals skip))
  · exact ⟨by omega, fun j h hj => by omega⟩
  · exact weak rfl (by (refine ⟨.eq rfl rfl, ?_⟩; refine ⟨.eq rfl rfl, ?_⟩; refine ⟨.ownE (by first | with_reducible rfl | (rw [hL, kw_lits])) rfl, ?_⟩; exact trivial)) (by (refine ⟨.row rfl, ?_⟩; exact trivial)) rfl
  rintro k ⟨hk, hne⟩
  by_cases hlt : k < L.length
  · by_cases hq : L[k] = s
    · have hq' : mkS L[k] = mkS s := by rw [hq]
      rw [decide_eq_true (by rw [← hq]; exact List.getElem_mem hlt)]
      (refine j291 ?_; refine j3 ?_; refine j2 ?_; refine AOps.move_own rfl rfl rfl ?_; refine zm ?_; refine AOps.index_own_mapN rfl rfl rfl rfl rfl rfl rfl (by omega) ?_; (focus ((with_reducible apply AOps.load_o1_mapI); (iterate 4 exact rfl); exact (fun h_ => by cases h_); rotate_left; (first | omega | exact Nat.zero_lt_one | exact (by simp)))); refine zm ?_; refine AOps.eqlS rfl rfl rfl rfl rfl ?_; refine j312 ?_; refine j182 ?_)
      (apply ends_ret; (exact Res.one (.tmp rfl rfl)); (refine Le.litB ?_; (rfl)))
    · have hq' : mkS L[k] ≠ mkS s := fun h => hq (mk_inj.1 h)
      (refine j291 ?_; refine j3 ?_; refine j2 ?_; refine AOps.move_own rfl rfl rfl ?_; refine zm ?_; refine AOps.index_own_mapN rfl rfl rfl rfl rfl rfl rfl (by omega) ?_; (focus ((with_reducible apply AOps.load_o1_mapI); (iterate 4 exact rfl); exact (fun h_ => by cases h_); rotate_left; (first | omega | exact Nat.zero_lt_one | exact (by simp)))); refine zm ?_; refine AOps.eqlS rfl rfl rfl rfl rfl ?_; refine zd ?_; refine j196 ?_)
      exact ⟨k + 1, ⟨by omega, fun j h hj => by
        by_cases e : j = k
        · subst e; exact hq
        · exact hne j h (by omega)⟩, by omega, weak rfl (by (refine ⟨.eq rfl rfl, ?_⟩; refine ⟨.intE (by first | with_reducible rfl | (rfl)), ?_⟩; refine ⟨.ownE (by first | with_reducible rfl | (rfl)) rfl, ?_⟩; exact trivial)) (by (refine ⟨.row rfl, ?_⟩; exact trivial)) rfl⟩
  · rw [decide_eq_false (by
      intro h
      obtain ⟨j, hj, e⟩ := List.getElem_of_mem h
      exact hne j hj (by omega) e)]
    (refine j291 ?_; refine j120 ?_; refine j36 ?_)
    (apply ends_ret; (exact Res.one (.tmp rfl rfl)); (refine Le.litB ?_; (rfl)))
theorem okC_yes {s : Bt} {k : Nat} (h : (97 ≤ byteAt (mkS s) k ∧ byteAt (mkS s) k ≤ 122) ∨ (65 ≤ byteAt (mkS s) k ∧ byteAt (mkS s) k ≤ 90) ∨ (k ≠ 0 ∧ (byteAt (mkS s) k = 95 ∨ (48 ≤ byteAt (mkS s) k ∧ byteAt (mkS s) k ≤ 57)))) : okC s k = true := by
  unfold okC letC
  rw [Bool.or_eq_true, decide_eq_true_eq, decide_eq_true_eq]
  rcases h with h | h | h
  · exact .inl (.inl h)
  · exact .inl (.inr h)
  · exact .inr h
theorem okC_no {s : Bt} {k : Nat} (h : ¬ ((97 ≤ byteAt (mkS s) k ∧ byteAt (mkS s) k ≤ 122) ∨ (65 ≤ byteAt (mkS s) k ∧ byteAt (mkS s) k ≤ 90) ∨ (k ≠ 0 ∧ (byteAt (mkS s) k = 95 ∨ (48 ≤ byteAt (mkS s) k ∧ byteAt (mkS s) k ≤ 57))))) : okC s k = false := by
  unfold okC letC
  rw [Bool.or_eq_false_iff, decide_eq_false_iff_not, decide_eq_false_iff_not]
  exact ⟨fun h' => h (h'.elim .inl fun h' => .inr (.inl h')), fun h' => h (.inr (.inr h'))⟩
theorem name2_fn (s : Bt) : Fn Tryd.prog 29 [litS (mkS s)] (litB (nameB s)) := by
  have kz := mk_size s
  have kw := kw_fn s
  unfold nameB
  by_cases h0 : s.length = 0
  · rw [decide_eq_false (by omega), Bool.false_and]
    refine Fn.enter (n := 59) Tryd.func29 rfl rfl rfl rfl rfl (by decide) fun g hro_ hwt_ => ?_; (try refine nz ?_)
    (refine zq ?_; refine j100 ?_; refine AOps.len_str rfl rfl rfl rfl ?_; refine AOps.eql rfl rfl rfl rfl rfl ?_; refine zm ?_; (iterate 3 refine AOps.guardFn rfl rfl rfl rfl rfl rfl (by first | omega | decide) ?_); refine j313 ?_; refine j248 ?_; refine j48 ?_)
    (apply ends_ret; (exact Res.one (.tmp rfl rfl)); (refine Le.litB ?_; (rfl)))
  by_cases h1 : 16 < s.length
  · rw [decide_eq_false (by omega), Bool.false_and]
    refine Fn.enter (n := 59) Tryd.func29 rfl rfl rfl rfl rfl (by decide) fun g hro_ hwt_ => ?_; (try refine nz ?_)
    (refine zq ?_; refine j169 ?_; refine zm ?_; (iterate 2 refine AOps.guardFn rfl rfl rfl rfl rfl rfl (by first | omega | decide) ?_); refine j147 ?_)
    (apply ends_ret; (exact Res.one (.tmp rfl rfl)); (refine Le.litB ?_; (rfl)))
  rw [decide_eq_true (by omega), Bool.true_and]
  cases hkw : kwB s with
  | true =>
    rw [hkw] at kw
    rw [Bool.not_true, Bool.false_and]
    refine Fn.enter (n := 59) Tryd.func29 rfl rfl rfl rfl rfl (by decide) fun g hro_ hwt_ => ?_; (try refine nz ?_)
    (refine zq ?_; refine j169 ?_; refine j221 ?_; refine zA (kw) ?_; refine zF ?_; refine j16 ?_; refine thenD_ret ?_)
    (apply ends_ret; (exact Res.one (.tmp rfl rfl)); (refine Le.litB ?_; (rfl)))
  | false =>
    rw [hkw] at kw
    rw [Bool.not_false, Bool.true_and]
    obtain ⟨b, hb⟩ : ∃ b, b = (List.range s.length).all (okC s) := ⟨_, rfl⟩
    rw [← hb]
    refine Fn.enter (n := 59) Tryd.func29 rfl rfl rfl rfl rfl (by decide) fun g hro_ hwt_ => ?_; (try refine nz ?_)
    (refine zq ?_; refine j169 ?_; refine j221 ?_; refine zA (kw) ?_; refine zF ?_; refine zd ?_; refine j119 ?_; refine j187 ?_)
    (refine nz ?_; apply AW.loopR [11, 9, 8, 6, 0] [] (fun k : Nat => ([(3, litI k)] : List (Nat × AV))) (fun k : Nat => ([] : List (Nat × Option Ob))) (fun k : Nat => k ≤ s.length ∧ ∀ j, j < k → okC s j = true) (fun k : Nat => s.length - k) (0); (conv => lhs; simp only [Nf.lpR, Nf.all, Nat.reduceBEq, reduceAdd, reduceSub]); (all_goals skip))
    · exact ⟨by omega, fun j hj => by omega⟩
    · exact weak rfl (by (refine ⟨.intE (by first | with_reducible rfl | (rfl)), ?_⟩; refine ⟨.intE (by first | with_reducible rfl | (rfl)), ?_⟩; (iterate 2 refine ⟨.boolE (by first | with_reducible rfl | (rfl)), ?_⟩); (iterate 2 refine ⟨.eq rfl rfl, ?_⟩); exact trivial)) (by (exact trivial)) rfl
    rintro k ⟨hk, hok⟩
    by_cases hlt : k < s.length
    · by_cases c1 : 97 ≤ byteAt (mkS s) k
      · by_cases c2 : byteAt (mkS s) k ≤ 122
        · have hk1 : okC s k = true := okC_yes (by omega)
          (refine j180 ?_; refine AOps.len_str rfl rfl rfl rfl ?_; refine j3 ?_; refine j2 ?_; (iterate 2 refine zm ?_); refine AOps.index_str rfl rfl rfl rfl rfl rfl (by omega) ?_; refine j126 ?_; refine AOps.geqU rfl rfl rfl rfl rfl ?_; refine zm ?_; refine j321 ?_; refine AOps.leqU rfl rfl rfl rfl rfl ?_; refine j313 ?_; refine j97 ?_; (iterate 2 refine AOps.guard_u rfl rfl rfl rfl rfl rfl ?_); refine j137 ?_; refine zT ?_; refine j126 ?_; refine j112 ?_; refine j106 ?_; (iterate 10 refine AOps.guard_u rfl rfl rfl rfl rfl rfl ?_); refine AOps.guard_lf rfl rfl rfl rfl rfl rfl rfl ?_; refine j214 ?_; refine j70 ?_; refine j78 ?_)
          exact ⟨k + 1, ⟨by omega, fun j hj => by
            by_cases e : j = k
            · subst e; exact hk1
            · exact hok j (by omega)⟩, by omega, weak rfl (by (refine ⟨.intE (by first | with_reducible rfl | (rfl)), ?_⟩; refine ⟨.intE (by first | with_reducible rfl | (rfl)), ?_⟩; (iterate 2 refine ⟨.boolE (by first | with_reducible rfl | (rfl)), ?_⟩); (iterate 2 refine ⟨.eq rfl rfl, ?_⟩); exact trivial)) (by (exact trivial)) rfl⟩
        · have c3 : 65 ≤ byteAt (mkS s) k := by omega
          have c4 : ¬ byteAt (mkS s) k ≤ 90 := by omega
          by_cases c5 : (k : Int) = 0
          · have hb' : b = false := by rw [hb, List.all_eq_false]; exact j140
            subst hb'
            (refine j22 ?_; refine j97 ?_; (iterate 6 refine AOps.guard_u rfl rfl rfl rfl rfl rfl ?_); refine j137 ?_; refine zt ?_; (iterate 2 refine zT ?_); refine j245 ?_)
            (apply ends_ret; (exact Res.one (.tmp rfl rfl)); (refine Le.litB ?_; (rfl)))
          by_cases c6 : byteAt (mkS s) k = 95
          · have c6' : ¬ ¬ byteAt (mkS s) k = 95 := fun h => h c6
            have hk1 : okC s k = true := okC_yes (by omega)
            (refine j22 ?_; refine zy ?_; refine j51 ?_; refine AOps.neqU rfl rfl rfl rfl rfl ?_; refine zy ?_; refine zm ?_; refine j127 ?_; refine j267 ?_; refine zd ?_; refine j70 ?_; refine j78 ?_)
            exact ⟨k + 1, ⟨by omega, fun j hj => by
              by_cases e : j = k
              · subst e; exact hk1
              · exact hok j (by omega)⟩, by omega, weak rfl (by (refine ⟨.intE (by first | with_reducible rfl | (rfl)), ?_⟩; refine ⟨.intE (by first | with_reducible rfl | (rfl)), ?_⟩; (iterate 2 refine ⟨.boolE (by first | with_reducible rfl | (rfl)), ?_⟩); (iterate 2 refine ⟨.eq rfl rfl, ?_⟩); exact trivial)) (by (exact trivial)) rfl⟩
          by_cases c7 : byteAt (mkS s) k < 48
          · have hb' : b = false := by rw [hb, List.all_eq_false]; exact j140
            subst hb'
            (refine j22 ?_; refine zy ?_; refine j189 ?_; refine j267 ?_; refine j245 ?_)
            (apply ends_ret; (exact Res.one (.tmp rfl rfl)); (refine Le.litB ?_; (rfl)))
          by_cases c8 : 57 < byteAt (mkS s) k
          · have hb' : b = false := by rw [hb, List.all_eq_false]; exact j140
            subst hb'
            (refine j22 ?_; refine j43 ?_; refine j267 ?_; refine j312 ?_; refine j182 ?_)
            (apply ends_ret; (exact Res.one (.tmp rfl rfl)); (refine Le.litB ?_; (rfl)))
          have hk1 : okC s k = true := okC_yes (by omega)
          (refine j22 ?_; refine j43 ?_; refine j267 ?_; refine zd ?_; refine j196 ?_)
          exact ⟨k + 1, ⟨by omega, fun j hj => by
            by_cases e : j = k
            · subst e; exact hk1
            · exact hok j (by omega)⟩, by omega, weak rfl (by (refine ⟨.intE (by first | with_reducible rfl | (rfl)), ?_⟩; refine ⟨.intE (by first | with_reducible rfl | (rfl)), ?_⟩; (iterate 2 refine ⟨.boolE (by first | with_reducible rfl | (rfl)), ?_⟩); (iterate 2 refine ⟨.eq rfl rfl, ?_⟩); exact trivial)) (by (exact trivial)) rfl⟩
      · by_cases c3 : 65 ≤ byteAt (mkS s) k
        · by_cases c4 : byteAt (mkS s) k ≤ 90
          · have hk1 : okC s k = true := okC_yes (by omega)
            (refine j13 ?_; refine j321 ?_; refine AOps.leqU rfl rfl rfl rfl rfl ?_; refine zl ?_; refine zT ?_; refine AOps.pick_lf rfl rfl rfl rfl rfl rfl ?_; refine j126 ?_; refine AOps.notD rfl rfl rfl ?_; refine zm ?_; (iterate 3 refine AOps.guardTn rfl rfl rfl rfl rfl rfl (by first | omega | decide) ?_); (iterate 10 refine AOps.guard_u rfl rfl rfl rfl rfl rfl ?_); refine AOps.guardTn rfl rfl rfl rfl rfl rfl (by first | omega | decide) ?_; refine zF ?_; refine zd ?_; refine j70 ?_; refine j78 ?_)
            exact ⟨k + 1, ⟨by omega, fun j hj => by
              by_cases e : j = k
              · subst e; exact hk1
              · exact hok j (by omega)⟩, by omega, weak rfl (by (refine ⟨.intE (by first | with_reducible rfl | (rfl)), ?_⟩; refine ⟨.intE (by first | with_reducible rfl | (rfl)), ?_⟩; (iterate 2 refine ⟨.boolE (by first | with_reducible rfl | (rfl)), ?_⟩); (iterate 2 refine ⟨.eq rfl rfl, ?_⟩); exact trivial)) (by (exact trivial)) rfl⟩
          · by_cases c5 : (k : Int) = 0
            · have hb' : b = false := by rw [hb, List.all_eq_false]; exact j140
              subst hb'
              (refine j88 ?_; refine zm ?_; refine j97 ?_; (iterate 6 refine AOps.guard_u rfl rfl rfl rfl rfl rfl ?_); refine j137 ?_; refine zt ?_; (iterate 2 refine zT ?_); refine j245 ?_)
              (apply ends_ret; (exact Res.one (.tmp rfl rfl)); (refine Le.litB ?_; (rfl)))
            by_cases c6 : byteAt (mkS s) k = 95
            · have c6' : ¬ ¬ byteAt (mkS s) k = 95 := fun h => h c6
              have hk1 : okC s k = true := okC_yes (by omega)
              (refine j88 ?_; refine j221 ?_; refine AOps.neqU rfl rfl rfl rfl rfl ?_; refine zy ?_; refine zm ?_; refine j127 ?_; refine j267 ?_; refine zd ?_; refine j70 ?_; refine j78 ?_)
              exact ⟨k + 1, ⟨by omega, fun j hj => by
                by_cases e : j = k
                · subst e; exact hk1
                · exact hok j (by omega)⟩, by omega, weak rfl (by (refine ⟨.intE (by first | with_reducible rfl | (rfl)), ?_⟩; refine ⟨.intE (by first | with_reducible rfl | (rfl)), ?_⟩; (iterate 2 refine ⟨.boolE (by first | with_reducible rfl | (rfl)), ?_⟩); (iterate 2 refine ⟨.eq rfl rfl, ?_⟩); exact trivial)) (by (exact trivial)) rfl⟩
            by_cases c7 : byteAt (mkS s) k < 48
            · have hb' : b = false := by rw [hb, List.all_eq_false]; exact j140
              subst hb'
              (refine j88 ?_; refine j51 ?_; refine j189 ?_; refine j267 ?_; refine j245 ?_)
              (apply ends_ret; (exact Res.one (.tmp rfl rfl)); (refine Le.litB ?_; (rfl)))
            by_cases c8 : 57 < byteAt (mkS s) k
            · have hb' : b = false := by rw [hb, List.all_eq_false]; exact j140
              subst hb'
              (refine j88 ?_; refine zm ?_; refine j43 ?_; refine j267 ?_; refine j312 ?_; refine j182 ?_)
              (apply ends_ret; (exact Res.one (.tmp rfl rfl)); (refine Le.litB ?_; (rfl)))
            have hk1 : okC s k = true := okC_yes (by omega)
            (refine j88 ?_; refine zm ?_; refine j43 ?_; refine j267 ?_; refine zd ?_; refine j196 ?_)
            exact ⟨k + 1, ⟨by omega, fun j hj => by
              by_cases e : j = k
              · subst e; exact hk1
              · exact hok j (by omega)⟩, by omega, weak rfl (by (refine ⟨.intE (by first | with_reducible rfl | (rfl)), ?_⟩; refine ⟨.intE (by first | with_reducible rfl | (rfl)), ?_⟩; (iterate 2 refine ⟨.boolE (by first | with_reducible rfl | (rfl)), ?_⟩); (iterate 2 refine ⟨.eq rfl rfl, ?_⟩); exact trivial)) (by (exact trivial)) rfl⟩
        · by_cases c5 : (k : Int) = 0
          · have hb' : b = false := by rw [hb, List.all_eq_false]; exact j140
            subst hb'
            (refine j61 ?_; refine zm ?_; refine j97 ?_; (iterate 6 refine AOps.guard_u rfl rfl rfl rfl rfl rfl ?_); refine j137 ?_; refine zl ?_; refine zT ?_; refine AOps.pick_lt rfl rfl rfl rfl rfl rfl ?_; refine j245 ?_)
            (apply ends_ret; (exact Res.one (.tmp rfl rfl)); (refine Le.litB ?_; (rfl)))
          by_cases c6 : byteAt (mkS s) k = 95
          · have c6' : ¬ ¬ byteAt (mkS s) k = 95 := fun h => h c6
            have hk1 : okC s k = true := okC_yes (by omega)
            (refine j61 ?_; refine j221 ?_; refine AOps.neqU rfl rfl rfl rfl rfl ?_; refine zy ?_; refine zm ?_; refine j127 ?_; refine j260 ?_; refine zd ?_; refine j70 ?_; refine j78 ?_)
            exact ⟨k + 1, ⟨by omega, fun j hj => by
              by_cases e : j = k
              · subst e; exact hk1
              · exact hok j (by omega)⟩, by omega, weak rfl (by (refine ⟨.intE (by first | with_reducible rfl | (rfl)), ?_⟩; refine ⟨.intE (by first | with_reducible rfl | (rfl)), ?_⟩; (iterate 2 refine ⟨.boolE (by first | with_reducible rfl | (rfl)), ?_⟩); (iterate 2 refine ⟨.eq rfl rfl, ?_⟩); exact trivial)) (by (exact trivial)) rfl⟩
          by_cases c7 : byteAt (mkS s) k < 48
          · have hb' : b = false := by rw [hb, List.all_eq_false]; exact j140
            subst hb'
            (refine j61 ?_; refine j51 ?_; refine j189 ?_; refine j260 ?_; refine j245 ?_)
            (apply ends_ret; (exact Res.one (.tmp rfl rfl)); (refine Le.litB ?_; (rfl)))
          by_cases c8 : 57 < byteAt (mkS s) k
          · have hb' : b = false := by rw [hb, List.all_eq_false]; exact j140
            subst hb'
            (refine j61 ?_; refine zm ?_; refine j43 ?_; refine j260 ?_; refine j312 ?_; refine j182 ?_)
            (apply ends_ret; (exact Res.one (.tmp rfl rfl)); (refine Le.litB ?_; (rfl)))
          have hk1 : okC s k = true := okC_yes (by omega)
          (refine j61 ?_; refine zm ?_; refine j43 ?_; refine j260 ?_; refine zd ?_; refine j196 ?_)
          exact ⟨k + 1, ⟨by omega, fun j hj => by
            by_cases e : j = k
            · subst e; exact hk1
            · exact hok j (by omega)⟩, by omega, weak rfl (by (refine ⟨.intE (by first | with_reducible rfl | (rfl)), ?_⟩; refine ⟨.intE (by first | with_reducible rfl | (rfl)), ?_⟩; (iterate 2 refine ⟨.boolE (by first | with_reducible rfl | (rfl)), ?_⟩); (iterate 2 refine ⟨.eq rfl rfl, ?_⟩); exact trivial)) (by (exact trivial)) rfl⟩
    · have hb' : b = true := by rw [hb, List.all_eq_true]; exact fun j hj => hok j (by have := List.mem_range.1 hj; omega)
      subst hb'
      (refine j180 ?_; refine AOps.len_str rfl rfl rfl rfl ?_; refine j120 ?_; refine j36 ?_)
      (apply ends_ret; (exact Res.one (.tmp rfl rfl)); (refine Le.litB ?_; (rfl)))
end Go.Ab
/- Chapter 34: what the laws ask of their inputs, walked. -/
namespace Go.Ab
open Go Go.Proofs
open Nat (reduceAdd reduceSub)
set_option maxRecDepth 20000
set_option maxHeartbeats 4000000
def nmS (l : List SortM) : Bool := l.all fun q => nameB (sL q.1)
def nmF (l : List FieldM) : Bool := l.all fun f => nameB (sL f.name)
theorem nmS_drop {l : List SortM} {k : Nat} (hk : k < l.length) : nmS (l.drop k) = (nameB (sL l[k].1) && nmS (l.drop (k + 1))) := by
  rw [List.drop_eq_getElem_cons hk]; rfl
theorem nmF_drop {l : List FieldM} {k : Nat} (hk : k < l.length) : nmF (l.drop k) = (nameB (sL l[k].name) && nmF (l.drop (k + 1))) := by
  rw [List.drop_eq_getElem_cons hk]; rfl
attribute [local irreducible] AW AOps thenD inBlockD AR iterEnds roundEndsN inlEnds noGotoD EndsX EndsP mkS byteAt
theorem named_fn (s : SpecM) (h1 : s.sorts.length ≤ 1000) (h2 : s.fields.length ≤ 1000) : Fn Tryd.prog 12 [spc s] (litB (nmS s.sorts && nmF s.fields)) := by
  obtain ⟨so, fs, p, q⟩ := s
  simp only at h1 h2 ⊢
  have hn := fun (b : ByteArray) => name2_fn (sL b)
  simp only [mk_sL] at hn
  refine Fn.enter (n := 35) Tryd.func12 rfl rfl rfl rfl rfl (by decide) fun g hro_ hwt_ => ?_; (try refine nz ?_)
  (refine j217 ?_; refine j7 ?_; refine j187 ?_)
  (refine nz ?_; apply AW.loopR [1] [0] (fun k : Nat => ([(3, litI k)] : List (Nat × AV))) (fun k : Nat => ([] : List (Nat × Option Ob))) (fun k : Nat => k ≤ so.length ∧ nmS so = nmS (so.drop k)) (fun k : Nat => so.length - k) (0); (conv => lhs; simp only [Nf.lpR, Nf.all, Nat.reduceBEq, reduceAdd, reduceSub]); (all_goals skip))
  · exact ⟨by omega, rfl⟩
  · exact j194
  rintro k ⟨hk, he⟩
  by_cases hlt : k < so.length
  · rw [nmS_drop hlt] at he
    have hc := hn so[k].1
    cases hb : nameB (sL so[k].1) with
    | false =>
      rw [hb] at hc
      rw [hb, Bool.false_and] at he
      rw [he, Bool.false_and]
      (refine j54 ?_; refine j68 ?_; refine zn ?_; refine j3 ?_; refine j2 ?_; refine j68 ?_; refine zm ?_; (focus ((with_reducible apply AOps.index_map); (iterate 7 exact rfl); rotate_left; omega)); refine j275 ?_; refine zA (hc) ?_; refine AOps.not rfl rfl rfl ?_; refine j245 ?_)
      (apply ends_ret; (exact Res.one (.tmp rfl rfl)); (refine Le.litB ?_; (rfl)))
    | true =>
      rw [hb] at hc
      rw [hb, Bool.true_and] at he
      (refine j54 ?_; refine j68 ?_; refine zn ?_; refine j3 ?_; refine j2 ?_; refine j68 ?_; refine zm ?_; (focus ((with_reducible apply AOps.index_map); (iterate 7 exact rfl); rotate_left; omega)); refine j275 ?_; refine zA (hc) ?_; refine j199 ?_; refine j78 ?_)
      exact j171
  · obtain rfl : k = so.length := by omega
    have he : nmS so = true := by rw [he, List.drop_length]; rfl
    rw [he, Bool.true_and]
    (refine j54 ?_; refine j68 ?_; refine zn ?_; refine j325 ?_; refine thenD_n ?_; refine j187 ?_)
    (refine nz ?_; apply AW.loopR [1] [0] (fun k : Nat => ([(4, litI k)] : List (Nat × AV))) (fun k : Nat => ([] : List (Nat × Option Ob))) (fun k : Nat => k ≤ fs.length ∧ nmF fs = nmF (fs.drop k)) (fun k : Nat => fs.length - k) (0); (conv => lhs; simp only [Nf.lpR, Nf.all, Nat.reduceBEq, reduceAdd, reduceSub]); (all_goals skip))
    · exact ⟨by omega, rfl⟩
    · exact j194
    rintro k ⟨hk, he⟩
    by_cases hlt : k < fs.length
    · rw [nmF_drop hlt] at he
      have hc := hn fs[k].name
      cases hb : nameB (sL fs[k].name) with
      | false =>
        rw [hb] at hc
        rw [hb, Bool.false_and] at he
        rw [he]
        (refine j154 ?_; refine zm ?_; (focus ((with_reducible apply AOps.index_map); (iterate 7 exact rfl); rotate_left; omega)); refine AOps.fieldAddr_rN 46 0 0 1 rfl rfl rfl rfl ?_; refine nz ?_; refine zr ?_; refine zA (hc) ?_; refine AOps.not rfl rfl rfl ?_; refine j245 ?_)
        (apply ends_ret; (exact Res.one (.tmp rfl rfl)); (refine Le.litB ?_; (rfl)))
      | true =>
        rw [hb] at hc
        rw [hb, Bool.true_and] at he
        (refine j154 ?_; refine zm ?_; (focus ((with_reducible apply AOps.index_map); (iterate 7 exact rfl); rotate_left; omega)); refine AOps.fieldAddr_rN 46 0 0 1 rfl rfl rfl rfl ?_; refine nz ?_; refine zr ?_; refine zA (hc) ?_; refine j199 ?_; refine j78 ?_)
        exact j171
    · obtain rfl : k = fs.length := by omega
      have he : nmF fs = true := by rw [he, List.drop_length]; rfl
      rw [he]
      (refine j54 ?_; refine j50 ?_; refine j120 ?_; refine j36 ?_)
      (apply ends_ret; (exact Res.one (.tmp rfl rfl)); (refine Le.litB ?_; (rfl)))
def fewB (s : SpecM) (m : ModM) : Bool := smallB s m && (nmS s.sorts && nmF s.fields)
theorem small_spec {s : SpecM} {m : ModM} (h : smallB s m = true) : (s.sorts.length ≤ 10 ∧ s.fields.length ≤ 10 ∧ m.states.length ≤ 64 ∧ m.atoms.length ≤ 10) ∧ ∀ f ∈ s.fields, f.sorts.length ≤ 10 := by
  unfold smallB at h
  rw [Bool.and_eq_true, Bool.and_eq_true, decide_eq_true_eq] at h
  refine ⟨h.1, fun f hf => ?_⟩
  have := h.2.2
  unfold smF at this
  rw [List.all_eq_true] at this
  simpa using this f hf
theorem few_fn (s : SpecM) (m : ModM) : Fn Tryd.prog 6 [spc s, mdl m] (litB (fewB s m)) := by
  have h1 := small_fn s m
  unfold fewB
  cases e : smallB s m with
  | false =>
    rw [e] at h1
    rw [Bool.false_and]
    obtain ⟨so, fs, p, q⟩ := s
    obtain ⟨at', st, ss, lp⟩ := m
    refine Fn.enter (n := 12) Tryd.func6 rfl rfl rfl rfl rfl (by decide) fun g hro_ hwt_ => ?_; (try refine nz ?_)
    (refine j192 ?_; refine j156 ?_; refine zA (h1) ?_; refine zm ?_; refine j248 ?_; refine AOps.pick_lf rfl rfl rfl rfl rfl rfl ?_; refine j36 ?_)
    (apply ends_ret; (exact Res.one (.tmp rfl rfl)); (refine Le.litB ?_; (rfl)))
  | true =>
    rw [e] at h1
    rw [Bool.true_and]
    have hsp := small_spec e
    have h2 := named_fn s (by omega) (by omega)
    obtain ⟨so, fs, p, q⟩ := s
    obtain ⟨at', st, ss, lp⟩ := m
    refine Fn.enter (n := 12) Tryd.func6 rfl rfl rfl rfl rfl (by decide) fun g hro_ hwt_ => ?_; (try refine nz ?_)
    (refine j192 ?_; refine j156 ?_; refine zA (h1) ?_; refine zm ?_; refine j116 ?_; refine zA (h2) ?_; refine AOps.pick_lt rfl rfl rfl rfl rfl rfl ?_; refine j36 ?_)
    (apply ends_ret; (exact Res.one (.tmp rfl rfl)); (refine Le.litB ?_; (rfl)))
theorem name_spec {s : Bt} (h : nameB s = true) : s.length ≤ 16 ∧ ∃ c r, s = c :: r ∧ c ≠ 125 := by
  unfold nameB at h
  rw [Bool.and_eq_true, Bool.and_eq_true, decide_eq_true_eq] at h
  obtain ⟨h1, h2, h3⟩ := h
  refine ⟨h1.2, ?_⟩
  cases s with
  | nil => simp at h1
  | cons c r =>
    refine ⟨c, r, rfl, fun e => ?_⟩
    have h4 := List.all_eq_true.1 h3 0 (List.mem_range.2 (by simp))
    subst e
    have h5 : byteAt (mkS (125 :: r)) 0 = 125 := by unfold byteAt mkS; rfl
    rw [okC_no (by rw [h5]; omega)] at h4
    cases h4
theorem few_spec {s : SpecM} {m : ModM} (h : fewB s m = true) : SpP s ∧ smallB s m = true := by
  unfold fewB at h
  rw [Bool.and_eq_true, Bool.and_eq_true] at h
  obtain ⟨h1, h2, h3⟩ := h
  have hs := small_spec h1
  unfold nmS at h2
  unfold nmF at h3
  rw [List.all_eq_true] at h2 h3
  exact ⟨⟨hs.1.1, fun q hq => name_spec (h2 q hq), hs.1.2.1, fun f hf => ⟨(name_spec (h3 f hf)).1, hs.2 f hf⟩⟩, h1⟩
theorem parse_fmt {s : SpecM} {m : ModM} (hp : SpP s) (hv : validB (fullR m.atoms) s m = true) : parseF s (fmtT s m) = (m, 0) := by
  have h := modelP_app (tab_ok hp hv) []
  rw [List.append_nil] at h
  unfold parseF
  rw [h]
  simp [hv]
theorem parse_ok {s : SpecM} {t : Bt} {e : Int} {m : ModM} (h : parseF s t = (m, e)) (he : e ≠ 340) : e = 0 ∧ validB (fullR m.atoms) s m = true ∧ fmtT s m = t := by
  unfold parseF at h
  split at h
  · cases h; exact absurd rfl he
  · split at h
    · rename_i hc
      cases h
      exact ⟨rfl, hc⟩
    · cases h; exact absurd rfl he
theorem parse_two (s : SpecM) (t : Bt) : (parseF s t).2 = 340 ∨ (parseF s t).2 = 0 := by
  unfold parseF
  split
  · exact .inl rfl
  · split
    · exact .inr rfl
    · exact .inl rfl
theorem parse_ext {s : SpecM} (hp : SpP s) {m : ModM} (hv : validB (fullR m.atoms) s m = true) {more : Bt} (hm : more ≠ []) : (parseF s (fmtT s m ++ more)).2 = 340 := by
  unfold parseF
  rw [modelP_app (tab_ok hp hv) more]
  simp only
  split
  · rename_i hc
    have h1 := congrArg List.length hc.2
    rw [List.length_append] at h1
    have : more.length = 0 := by omega
    exact absurd (List.length_eq_zero_iff.1 this) hm
  · rfl
theorem parse_cut {s : SpecM} (hp : SpP s) {m : ModM} (hv : validB (fullR m.atoms) s m = true) {k : Nat} (hk : k < (fmtT s m).length) : (parseF s ((fmtT s m).take k)).2 = 340 := by
  rcases parse_two s ((fmtT s m).take k) with h | h
  · exact h
  · exfalso
    obtain ⟨m', e, hpe⟩ : ∃ m' e, parseF s ((fmtT s m).take k) = (m', e) := ⟨_, _, rfl⟩
    rw [hpe] at h
    obtain ⟨_, hv', hf⟩ := parse_ok hpe (by show e ≠ 340; have : e = 0 := h; omega)
    have h1 := parse_ext hp hv' (more := (fmtT s m).drop k) (by
      intro e
      have := congrArg List.length e
      rw [List.length_drop] at this
      simp only [List.length_nil] at this
      omega)
    rw [hf, List.take_append_drop, parse_fmt hp hv] at h1
    cases h1
end Go.Ab
/- Chapter 34: the laws' head is true. -/
namespace Go.Ab
open Go Go.Proofs
open Nat (reduceAdd reduceSub)
set_option maxRecDepth 100000
set_option maxHeartbeats 64000000
def hS : SpecM := ⟨[(⟨#[65]⟩, false), (⟨#[66]⟩, false)], [⟨⟨#[102]⟩, [0, 1], true⟩, ⟨⟨#[115]⟩, [0], false⟩], ⟨none, 0, 0⟩, ⟨none, 0, 0⟩⟩
def hM : ModM := ⟨[2, 1], 2, [[(2, [2, 5]), (1, [1])], [(2, []), (1, [1])]], 1⟩
def hT : Bt := [115, 99, 111, 112, 101, 32, 65, 61, 50, 32, 66, 61, 49, 32, 115, 116, 101, 112, 115, 61, 50, 32, 108, 111, 111, 112, 61, 49, 10, 115, 116, 97, 116, 101, 32, 48, 10, 102, 32, 61, 32, 123, 65, 36, 48, 45, 62, 66, 36, 48, 44, 32, 65, 36, 49, 45, 62, 66, 36, 48, 125, 10, 115, 32, 61, 32, 123, 65, 36, 49, 125, 10, 115, 116, 97, 116, 101, 32, 49, 10, 102, 32, 61, 32, 123, 125, 10, 115, 32, 61, 32, 123, 65, 36, 49, 125, 10]
theorem hSp : SpP hS := ⟨by decide, by
  intro q hq
  have : q = (⟨#[65]⟩, false) ∨ q = (⟨#[66]⟩, false) := by simpa [hS] using hq
  rcases this with rfl | rfl
  · exact ⟨by decide, 65, [], rfl, by decide⟩
  · exact ⟨by decide, 66, [], rfl, by decide⟩, by decide, by
  intro f hf
  have : f = ⟨⟨#[102]⟩, [0, 1], true⟩ ∨ f = ⟨⟨#[115]⟩, [0], false⟩ := by simpa [hS] using hf
  rcases this with rfl | rfl
  · exact ⟨by decide, by decide⟩
  · exact ⟨by decide, by decide⟩⟩
theorem hMv : validB (fullR hM.atoms) hS hM = true := by decide +kernel
theorem hMt : fmtT hS hM = hT := by decide +kernel
theorem hTp : parseF hS hT = (hM, 0) := by rw [← hMt]; exact parse_fmt hSp hMv
theorem hTc : (parseF hS (hT.take (hT.length - 1))).2 = 340 := by rw [← hMt]; exact parse_cut hSp hMv (by rw [hMt]; decide)
theorem hT0 : (parseF hS []).2 = 340 := by
  have h := parse_cut hSp hMv (k := 0) (by rw [hMt]; decide)
  rw [List.take_zero] at h
  exact h
attribute [local irreducible] AW AOps thenD inBlockD AR iterEnds roundEndsN inlEnds noGotoD EndsX EndsP byteAt parseF fmtT
theorem head34_fn : FnW errT Tryd.prog 5 [] (litB true) := by
  have hstay_ := errT_stay
  have f1 := format_fn hS hM (fmt_ok hSp hMv)
  rw [hMt] at f1
  have p1 := parse_fn hS hSp (t := hT) (by decide)
  rw [hTp] at p1
  have p2 := parse_fn hS hSp (t := hT.take (hT.length - 1)) (by decide)
  rw [hTc] at p2
  have p3 := parse_fn hS hSp (t := []) (by decide)
  rw [hT0] at p3
  generalize (parseF hS (hT.take (hT.length - 1))).1 = m2 at p2
  generalize (parseF hS []).1 = m3 at p3
  have q1 := rEq07_fn hM hM
  rw [decide_eq_true rfl] at q1
  have e1 : mkS (hT.take (hT.length - 1)) = (mkS hT).extract 0 (((mkS hT).size : Int) - 1).toNat := by
    rw [mk_ext, mk_size, List.drop_zero]; rfl
  rw [e1] at p2
  have hb : mkS hT = ⟨(List.append (115 :: 99 :: 111 :: 112 :: 101 :: 32 :: 65 :: 61 :: 50 :: 32 :: 66 :: 61 :: 49 :: 32 :: 115 :: 116 :: 101 :: 112 :: 115 :: 61 :: 50 :: 32 :: 108 :: 111 :: 111 :: 112 :: 61 :: 49 :: 10 :: 115 :: 116 :: 97 :: 116 :: 101 :: 32 :: 48 :: 10 :: 102 :: 32 :: 61 :: 32 :: 123 :: 65 :: 36 :: 48 :: 45 :: 62 :: 66 :: []) (36 :: 48 :: 44 :: 32 :: 65 :: 36 :: 49 :: 45 :: 62 :: 66 :: 36 :: 48 :: 125 :: 10 :: 115 :: 32 :: 61 :: 32 :: 123 :: 65 :: 36 :: 49 :: 125 :: 10 :: 115 :: 116 :: 97 :: 116 :: 101 :: 32 :: 49 :: 10 :: 102 :: 32 :: 61 :: 32 :: 123 :: 125 :: 10 :: 115 :: 32 :: 61 :: 32 :: 123 :: 65 :: 36 :: 49 :: 125 :: 10 :: [])).toArray⟩ := rfl
  have hsz : (ByteArray.mk (List.append (115 :: 99 :: 111 :: 112 :: 101 :: 32 :: 65 :: 61 :: 50 :: 32 :: 66 :: 61 :: 49 :: 32 :: 115 :: 116 :: 101 :: 112 :: 115 :: 61 :: 50 :: 32 :: 108 :: 111 :: 111 :: 112 :: 61 :: 49 :: 10 :: 115 :: 116 :: 97 :: 116 :: 101 :: 32 :: 48 :: 10 :: 102 :: 32 :: 61 :: 32 :: 123 :: 65 :: 36 :: 48 :: 45 :: 62 :: 66 :: []) (36 :: 48 :: 44 :: 32 :: 65 :: 36 :: 49 :: 45 :: 62 :: 66 :: 36 :: 48 :: 125 :: 10 :: 115 :: 32 :: 61 :: 32 :: 123 :: 65 :: 36 :: 49 :: 125 :: 10 :: 115 :: 116 :: 97 :: 116 :: 101 :: 32 :: 49 :: 10 :: 102 :: 32 :: 61 :: 32 :: 123 :: 125 :: 10 :: 115 :: 32 :: 61 :: 32 :: 123 :: 65 :: 36 :: 49 :: 125 :: 10 :: [])).toArray).size = 97 := rfl
  rw [hb] at f1 p1 p2
  rw [show mkS [] = ⟨#[]⟩ from rfl] at p3
  obtain ⟨a2, s2, x2, l2⟩ := m2
  obtain ⟨a3, s3, x3, l3⟩ := m3
  refine FnW.enter hstay_ (n := 76) Tryd.func5 rfl rfl rfl rfl rfl (by decide) fun g hro_ hwt_ hT => ?_; (try refine nz ?_)
  (refine j239 ?_; refine AOps.buildN 44 [0] rfl rfl rfl rfl rfl rfl rfl rfl rfl ?_; refine nz ?_; refine AOps.buildN 44 [0] rfl rfl rfl rfl rfl rfl rfl rfl rfl ?_; refine nz ?_; refine j107 ?_; refine j181 ?_; refine AOps.buildN 46 [0, 1, 2] rfl rfl rfl rfl rfl rfl rfl rfl rfl ?_; refine nz ?_; refine j87 ?_; refine AOps.buildN 46 [0, 1] rfl rfl rfl rfl rfl rfl rfl rfl rfl ?_; refine nz ?_; (iterate 2 refine j298 ?_); refine j200 ?_; refine AOps.buildN 27 [0, 1] rfl rfl rfl rfl rfl rfl rfl rfl rfl ?_; refine j23 ?_; refine j239 ?_; refine j87 ?_; refine j292 ?_; refine j23 ?_; refine zq ?_; refine j181 ?_; refine AOps.buildN 30 [0, 1] rfl rfl rfl rfl rfl rfl rfl rfl rfl ?_; refine nz ?_; refine j181 ?_; refine j292 ?_; refine nz ?_; refine j28 ?_; (iterate 2 refine j298 ?_); refine j107 ?_; refine AOps.buildN 48 [0] rfl rfl rfl rfl rfl rfl rfl rfl rfl ?_; refine nz ?_; refine j28 ?_; (with_reducible apply AOps.nilB); exact rfl; exact rfl; (focus ((repeat (first | exact .nil | apply NilC.here | apply NilC.skip)); done)); refine nz ?_; refine j107 ?_; (iterate 2 refine j298 ?_); refine j181 ?_; refine AOps.buildN 33 [0, 3, 2] rfl rfl rfl rfl rfl rfl rfl rfl rfl ?_; refine j23 ?_; refine zq ?_; refine j28 ?_; refine zm ?_; (iterate 2 refine j157 ?_); (with_reducible apply AOps.callWp (hf := p1)); (first | (with_reducible assumption) | (refine TB.gs ?_ (by with_reducible assumption); with_reducible assumption) | (refine TB.gi ?_ (by with_reducible assumption); with_reducible assumption) | exact TB.none _); (repeat (first | exact .nil | (refine .cons rfl ?_ ?_; (first | exact .pv _ | exact .own _ _ _ _ rfl | exact .nil _ | exact .any _ | exact .rptr _ | (refine .aggL ?_; repeat (first | exact .nil | (refine .cons ?_ ?_; (first | exact .pv _ | exact .own _ _ _ _ rfl | exact .nil _)))))))); exact rfl; refine j138 ?_; refine j99 ?_; refine zB ?_; refine nz ?_; refine j7 ?_; refine zo ?_; refine AW.regionM [0, 1, 2, 3, 4, 5] [11] rfl (by assumption) (by kernel_rfl) (by kernel_rfl) rfl ?_; show AOps .held _ _ _ [_, _, _, _, _, _] _ _; refine j28 ?_; (iterate 2 refine zm ?_); refine AOps.len_str rfl rfl rfl rfl ?_; refine AOps.sub rfl rfl rfl rfl rfl (by omega) ?_; refine j233 ?_; refine j5 ?_; intro k_ hk_; refine nz ?_; apply AR.cut [5, 4, 3, 2, 1, 0, 6, 7, 8, 9, 10, 11]; intro hJ_0; apply AR.cut [5, 4, 3, 2, 1, 0, 6, 7, 8, 9, 10]; intro hJ_1; apply AR.cut [5, 4, 3, 2, 1, 0, 6, 7, 8, 10]; intro hJ_2; apply AR.cut [5, 4, 3, 2, 1, 0, 6, 7, 9, 10]; intro hJ_3; apply AR.cut [5, 4, 3, 2, 1, 0, 6, 7, 8, 9]; intro hJ_4; apply AR.cut [5, 4, 3, 2, 1, 0, 6, 7, 10]; intro hJ_5; (refine AR.step2M (i := 6) (j := 10) rfl (by kernel_rfl) rfl rfl ?_ ?_ <;> intro g_ hgro_ hw_); (with_reducible apply AOps.callWp (hf := p2)); (first | (with_reducible assumption) | (refine TB.gs ?_ (by with_reducible assumption); with_reducible assumption) | (refine TB.gi ?_ (by with_reducible assumption); with_reducible assumption) | exact TB.none _); (repeat (first | exact .nil | (refine .cons rfl ?_ ?_; (first | exact .pv _ | exact .own _ _ _ _ rfl | exact .nil _ | exact .any _ | exact .rptr _ | (refine .aggL ?_; repeat (first | exact .nil | (refine .cons ?_ ?_; (first | exact .pv _ | exact .own _ _ _ _ rfl | exact .nil _)))))))); exact rfl; refine j5 ?_; (refine AR.step2M (i := 7) (j := 10) rfl (by kernel_rfl) rfl rfl ?_ ?_ <;> intro g_ hgro_ hw_); refine AOps.move_tup rfl rfl rfl ?_; refine j5 ?_; (refine AR.step3M (i := 8) (j := 9) (m := 10) rfl (by kernel_rfl) rfl rfl rfl ?_ ?_ ?_ <;> intro g_ hgro_ hw_); refine AOps.extract rfl rfl rfl rfl ?_; refine j5 ?_; (refine AR.step2M (i := 9) (j := 10) rfl (by kernel_rfl) rfl rfl ?_ ?_ <;> intro g_ hgro_ hw_); refine AOps.extract rfl rfl rfl rfl ?_; refine j29 ?_; refine AR.gc [13, 12, 11, 7, 6, 4] rfl ?_; refine j77 ?_; exact AR.perm (by kernel_rfl) hJ_4; refine j302 ?_; exact AR.perm (by kernel_rfl) hJ_2; refine AOps.extract rfl rfl rfl rfl ?_; refine j5 ?_; (refine AR.step2M (i := 8) (j := 10) rfl (by kernel_rfl) rfl rfl ?_ ?_ <;> intro g_ hgro_ hw_); refine AOps.extract rfl rfl rfl rfl ?_; refine j168 ?_; refine AR.meet hJ_4 (by kernel_rfl) (fun g_ => weak rfl ?_ ?_ rfl); (iterate 45 refine ⟨.eq rfl rfl, ?_⟩); exact trivial; refine ⟨.box _ rfl ?_, ?_⟩; (iterate 4 refine ⟨.eq rfl rfl, ?_⟩); exact trivial; refine ⟨.box _ rfl ?_, ?_⟩; (iterate 4 refine ⟨.eq rfl rfl, ?_⟩); exact trivial; (iterate 2 refine ⟨.row rfl, ?_⟩); refine ⟨.box _ rfl ?_, ?_⟩; (iterate 2 refine ⟨.eq rfl rfl, ?_⟩); exact trivial; refine ⟨.box _ rfl ?_, ?_⟩; (iterate 4 refine ⟨.eq rfl rfl, ?_⟩); (iterate 2 exact trivial); refine j302 ?_; exact AR.perm (by kernel_rfl) hJ_3; refine j302 ?_; exact AR.perm (by kernel_rfl) hJ_5; refine j99 ?_; refine j5 ?_; refine AR.step1M (i := 7) rfl (by kernel_rfl) rfl ?_; intro g_ hgro_ hw_; exact j306; refine j99 ?_; refine j5 ?_; refine AR.step1M (i := 6) rfl (by kernel_rfl) rfl ?_; intro g_ hgro_ hw_; (with_reducible apply AOps.callWp (hf := p2)); (first | (with_reducible assumption) | (refine TB.gs ?_ (by with_reducible assumption); with_reducible assumption) | (refine TB.gi ?_ (by with_reducible assumption); with_reducible assumption) | exact TB.none _); (repeat (first | exact .nil | (refine .cons rfl ?_ ?_; (first | exact .pv _ | exact .own _ _ _ _ rfl | exact .nil _ | exact .any _ | exact .rptr _ | (refine .aggL ?_; repeat (first | exact .nil | (refine .cons ?_ ?_; (first | exact .pv _ | exact .own _ _ _ _ rfl | exact .nil _)))))))); exact rfl; refine j5 ?_; refine AR.step1M (i := 7) rfl (by kernel_rfl) rfl ?_; intro g_ hgro_ hw_; exact j306; (refine AR.step2M (i := 8) (j := 9) rfl (by kernel_rfl) rfl rfl ?_ ?_ <;> intro g_ hgro_ hw_); refine AOps.extract rfl rfl rfl rfl ?_; refine j168 ?_; refine AR.meet hJ_2 (by kernel_rfl) (fun g_ => weak rfl ?_ ?_ rfl); (iterate 45 refine ⟨.eq rfl rfl, ?_⟩); exact trivial; exact j18; refine AOps.extract rfl rfl rfl rfl ?_; refine j168 ?_; refine AR.meet hJ_3 (by kernel_rfl) (fun g_ => weak rfl ?_ ?_ rfl); (iterate 45 refine ⟨.eq rfl rfl, ?_⟩); exact trivial; exact j18; refine AR.step1M (i := 10) rfl (by kernel_rfl) rfl ?_; intro g_ hgro_ hw_; refine j99 ?_; refine j29 ?_; exact AR.perm (by kernel_rfl) hJ_1; refine AR.step1M (i := 8) rfl (by kernel_rfl) rfl ?_; intro g_ hgro_ hw_; exact j300; (refine AR.step2L (i := 9) (j := 11) rfl (by kernel_rfl) rfl rfl (by kernel_rfl) ?_ ?_ <;> intro g_ hgro_ hwt2_); exact j300; refine zB ?_; refine j311 ?_; refine j96 ?_; intro g_ hgro_ hwt2_; refine AOps.extract rfl rfl rfl rfl ?_; refine j29 ?_; exact AR.perm (by kernel_rfl) hJ_0; refine AR.step1LM (i := 11) rfl (by kernel_rfl) rfl (by kernel_rfl) ?_; intro g_ hgro_ hwt2_; refine zB ?_; refine nz ?_; refine j168 ?_; refine AR.meet hJ_0 (by kernel_rfl) (fun g_ => weak rfl ?_ ?_ rfl); (iterate 46 refine ⟨.eq rfl rfl, ?_⟩); exact trivial; exact j18; refine AR.step1LM (i := 12) rfl (by kernel_rfl) rfl (by kernel_rfl) ?_; intro g_ hgro_ hwt2_; refine za ?_; refine j93 ?_; refine thenD_n ?_; refine j2 ?_; refine j28 ?_; (with_reducible apply AOps.callWp (hf := p3)); (first | (with_reducible assumption) | (refine TB.gs ?_ (by with_reducible assumption); with_reducible assumption) | (refine TB.gi ?_ (by with_reducible assumption); with_reducible assumption) | exact TB.none _); (repeat (first | exact .nil | (refine .cons rfl ?_ ?_; (first | exact .pv _ | exact .own _ _ _ _ rfl | exact .nil _ | exact .any _ | exact .rptr _ | (refine .aggL ?_; repeat (first | exact .nil | (refine .cons ?_ ?_; (first | exact .pv _ | exact .own _ _ _ _ rfl | exact .nil _)))))))); exact rfl; refine j138 ?_; refine j99 ?_; refine zB ?_; refine nz ?_; refine j132 ?_; refine j156 ?_; refine zA (f1) ?_; refine zm ?_; refine AOps.eqlS rfl rfl rfl rfl rfl ?_; refine zm ?_; refine zl ?_; refine zm ?_; refine j294 ?_; refine j122 ?_; refine j270 ?_; refine zA (q1) ?_; refine j122 ?_; refine zl ?_; refine zm ?_; refine j294 ?_; refine j122 ?_; refine zl ?_; refine zm ?_; refine j294 ?_; refine AOps.pick_lt rfl rfl rfl rfl rfl rfl ?_; refine j36 ?_)
  (apply ends_ret; (exact Res.one (.tmp rfl rfl)); (refine Le.litB ?_; (rfl)))
end Go.Ab
/- Chapter 34: how many lines a text has. -/
namespace Go.Ab
open Go Go.Proofs
set_option maxRecDepth 20000
set_option maxHeartbeats 4000000
abbrev nl (l : Bt) : Nat := l.count 10
structure NoNl (s : SpecM) : Prop where
  so : ∀ q ∈ s.sorts, nl (sL q.1) = 0
  fs : ∀ f ∈ s.fields, nl (sL f.name) = 0
theorem nl_name {s : Bt} (h : nameB s = true) : nl s = 0 := by
  unfold nameB at h
  rw [Bool.and_eq_true, Bool.and_eq_true] at h
  refine List.count_eq_zero.2 fun hm => ?_
  obtain ⟨j, hj, e⟩ := List.getElem_of_mem hm
  have h4 := List.all_eq_true.1 h.2.2 j (List.mem_range.2 hj)
  have h5 : byteAt (mkS s) j = 10 := by
    unfold byteAt mkS
    show (((s.getD j 0).toNat : Nat) : Int) = 10
    rw [List.getD_eq_getElem?_getD, List.getElem?_eq_getElem hj, e]; rfl
  rw [okC_no (by rw [h5]; omega)] at h4
  cases h4
theorem few_nl {s : SpecM} {m : ModM} (h : fewB s m = true) : NoNl s := by
  unfold fewB at h
  rw [Bool.and_eq_true, Bool.and_eq_true] at h
  obtain ⟨h1, h2, h3⟩ := h
  unfold nmS at h2
  unfold nmF at h3
  rw [List.all_eq_true] at h2 h3
  exact ⟨fun q hq => nl_name (h2 q hq), fun f hf => nl_name (h3 f hf)⟩
theorem nl_app (a b : Bt) : nl (a ++ b) = nl a + nl b := List.count_append
theorem nl_dig {z : Int} (h : z < 100) : nl (digT z) = 0 := by
  have key : ∀ n, n < 100 → (Go.Lib.decDigits n).count 10 = 0 := by decide +kernel
  exact key z.toNat (by omega)
theorem nl_flat {α : Type} (f : α → Bt) : ∀ (l : List α), (∀ x ∈ l, nl (f x) = 0) → nl (l.flatMap f) = 0
  | [], _ => rfl
  | x :: l, h => by
    rw [List.flatMap_cons, nl_app, h x (by simp), nl_flat f l fun y hy => h y (by simp [hy])]
theorem nl_join {sep : Bt} (hs : nl sep = 0) : ∀ (l : List Bt), (∀ x ∈ l, nl x = 0) → nl (joinT sep l) = 0
  | [], _ => rfl
  | x :: l, h => by
    unfold joinT
    rw [nl_app, h x (by simp), nl_flat _ l fun y hy => by rw [nl_app, hs, h y (by simp [hy])]]
theorem nameT_nl {so : List SortM} {at' : List Int} (h5 : Ok5 at') (hn : ∀ q ∈ so, nl (sL q.1) = 0) (x : Int) : nl (nameT so at' x) = 0 := by
  rcases name_cases h5.nn x with h | ⟨k, hk, h1, h2, h3⟩
  · unfold nameT nameF
    rw [h, if_neg (by omega)]; rfl
  · have h0 : 0 ≤ x := by
      by_cases h0 : x < 0
      · rw [srt_lo h0] at h1; omega
      · omega
    have h7 : (at'.take (k + 1)).sum = (at'.take k).sum + at'.getD k 0 := by
      rw [getD_at hk, sum_snoc at' hk]
    rw [nameT_in h5 hk h0 h2 (by omega)]
    have h8 := h5.each _ (List.getElem_mem hk)
    rw [getD_at hk] at h3
    rw [nl_app, nl_app, nl_dig (by omega)]
    have h10 : nl (sL (so.getD k (⟨#[]⟩, false)).1) = 0 := by
      by_cases hs : k < so.length
      · rw [getDS hs]; exact hn _ (List.getElem_mem hs)
      · rw [List.getD_eq_getElem?_getD, List.getElem?_eq_none (by omega)]; rfl
    rw [h10]; rfl
theorem lineT_nl {so : List SortM} {at' : List Int} (h5 : Ok5 at') (hn : ∀ q ∈ so, nl (sL q.1) = 0) {f : FieldM} (hf : nl (sL f.name) = 0) (r : RelM) : nl (lineT so at' f r) = 1 := by
  unfold lineT
  rw [nl_app, nl_app, nl_app, hf, nl_join rfl _ fun x hx => by
    obtain ⟨t, _, rfl⟩ := List.mem_map.1 hx
    exact nl_join rfl _ fun y hy => by
      obtain ⟨z, _, rfl⟩ := List.mem_map.1 hy
      exact nameT_nl h5 hn z]
  rfl
theorem atomsT_nl : ∀ {so : List SortM} {at' : List Int}, (∀ q ∈ so, nl (sL q.1) = 0) → (∀ x ∈ at', x < 100) → nl (atomsT so at') = 0
  | [], _, _, _ => rfl
  | _ :: _, [], _, _ => rfl
  | q :: so, a :: at', h, h' => by
    unfold atomsT
    rw [nl_app, nl_app, nl_app, nl_app, h q (by simp), nl_dig (h' a (by simp)), atomsT_nl (fun q hq => h q (by simp [hq])) fun x hx => h' x (by simp [hx])]
    rfl
theorem headT_nl {s : SpecM} {m : ModM} (h5 : Ok5 m.atoms) (hn : NoNl s) (h1 : m.steps < 100) (h2 : m.loop < 100) : nl (headT s.sorts m) = 1 := by
  unfold headT
  rw [nl_app, nl_app, nl_app, nl_app, nl_app, nl_app, atomsT_nl hn.so fun x hx => by have := h5.each x hx; omega, nl_dig h1, nl_dig h2]
  rfl
end Go.Ab
/- Chapter 34: a text without its last field's lines. -/
namespace Go.Ab
open Go Go.Proofs
set_option maxRecDepth 20000
set_option maxHeartbeats 4000000
def keepI (n : Nat) (k : Int) : Bool := decide (k = 0 ∨ ¬ (k - 1) % ((n : Int) + 1) = n)
def selT (n : Nat) : Nat → List Bt → Bt
  | _, [] => []
  | k, x :: r => (if keepI n k then x else []) ++ selT n (k + 1) r
theorem selT_c (n k : Nat) (x : Bt) (r : List Bt) : selT n k (x :: r) = (if keepI n k then x else []) ++ selT n (k + 1) r := rfl
theorem linesT_c (so : List SortM) (at' : List Int) (f : FieldM) (fs : List FieldM) (r : RelM) (rs : List RelM) : linesT so at' (f :: fs) (r :: rs) = lineT so at' f r ++ linesT so at' fs rs := rfl
theorem selT_app (n : Nat) : ∀ (a b : List Bt) (k : Nat), selT n k (a ++ b) = selT n k a ++ selT n (k + a.length) b
  | [], b, k => by simp [selT]
  | x :: a, b, k => by
    rw [List.cons_append]
    rw [selT_c, selT_c, selT_app n a b (k + 1), List.append_assoc, List.length_cons, show k + 1 + a.length = k + (a.length + 1) by omega]
def IsLn (x : Bt) : Prop := ∃ b, x = b ++ [10] ∧ nl b = 0
def linesL (so : List SortM) (at' : List Int) : List FieldM → List RelM → List Bt
  | f :: fs, r :: rs => lineT so at' f r :: linesL so at' fs rs
  | _, _ => []
def stateL (so : List SortM) (at' : List Int) (fs : List FieldM) (i : Int) (st : List RelM) : List Bt := ([115, 116, 97, 116, 101, 32] ++ (digT i ++ [10])) :: linesL so at' fs st
def statesL (so : List SortM) (at' : List Int) (fs : List FieldM) : Int → List (List RelM) → List Bt
  | _, [] => []
  | i, st :: l => stateL so at' fs i st ++ statesL so at' fs (i + 1) l
def fmtL (s : SpecM) (m : ModM) : List Bt := headT s.sorts m :: statesL s.sorts m.atoms s.fields 0 m.states
theorem linesL_flat {so : List SortM} {at' : List Int} : ∀ {fs : List FieldM} {st : List RelM}, (linesL so at' fs st).flatten = linesT so at' fs st
  | [], _ => rfl
  | _ :: _, [] => rfl
  | f :: fs, r :: st => by
    unfold linesL linesT
    rw [List.flatten_cons, linesL_flat]
theorem statesL_flat {so : List SortM} {at' : List Int} {fs : List FieldM} : ∀ {l : List (List RelM)} {i : Int}, (statesL so at' fs i l).flatten = statesT so at' fs i l
  | [], _ => rfl
  | st :: l, i => by
    unfold statesL statesT stateL stateT
    rw [List.flatten_append, List.flatten_cons, statesL_flat, linesL_flat]
    simp only [List.append_assoc]
theorem fmtL_flat (s : SpecM) (m : ModM) : (fmtL s m).flatten = fmtT s m := by
  unfold fmtL fmtT
  rw [List.flatten_cons, statesL_flat]
theorem isLn_of {b x : Bt} (e : x = b ++ [10]) (h : nl b = 0) : IsLn x := ⟨b, e, h⟩
theorem lineT_ln {so : List SortM} {at' : List Int} (h5 : Ok5 at') (hn : ∀ q ∈ so, nl (sL q.1) = 0) {f : FieldM} (hf : nl (sL f.name) = 0) (r : RelM) : IsLn (lineT so at' f r) := by
  refine isLn_of (b := sL f.name ++ ([32, 61, 32, 123] ++ (joinT [44, 32] (r.2.map (tupT so at' r.1)) ++ [125]))) ?_ ?_
  · unfold lineT
    simp only [List.append_assoc]; rfl
  · have := lineT_nl h5 hn hf r
    unfold lineT at this
    rw [nl_app, nl_app, nl_app] at this ⊢
    rw [show nl [125, 10] = 1 from rfl] at this
    rw [show nl [125] = 0 from rfl]
    omega
theorem linesL_ln {so : List SortM} {at' : List Int} (h5 : Ok5 at') (hn : ∀ q ∈ so, nl (sL q.1) = 0) : ∀ {fs : List FieldM} {st : List RelM}, (∀ f ∈ fs, nl (sL f.name) = 0) → ∀ x ∈ linesL so at' fs st, IsLn x
  | [], _, _, x, hx => by simp [linesL] at hx
  | _ :: _, [], _, x, hx => by simp [linesL] at hx
  | f :: fs, r :: st, h, x, hx => by
    unfold linesL at hx
    rcases List.mem_cons.1 hx with rfl | hx
    · exact lineT_ln h5 hn (h f (by simp)) r
    · exact linesL_ln h5 hn (fun f hf => h f (by simp [hf])) x hx
theorem statesL_ln {so : List SortM} {at' : List Int} {fs : List FieldM} (h5 : Ok5 at') (hn : ∀ q ∈ so, nl (sL q.1) = 0) (h' : ∀ f ∈ fs, nl (sL f.name) = 0) : ∀ {l : List (List RelM)} {i : Int}, i + l.length ≤ 100 → ∀ x ∈ statesL so at' fs i l, IsLn x
  | [], _, _, x, hx => by simp [statesL] at hx
  | st :: l, i, hi, x, hx => by
    simp only [List.length_cons] at hi
    unfold statesL stateL at hx
    rw [List.cons_append] at hx
    rcases List.mem_cons.1 hx with rfl | hx
    · refine isLn_of (b := [115, 116, 97, 116, 101, 32] ++ digT i) (by simp) ?_
      rw [nl_app, nl_dig (by omega)]; rfl
    · rcases List.mem_append.1 hx with hx | hx
      · exact linesL_ln h5 hn h' x hx
      · exact statesL_ln h5 hn h' (by omega) x hx
theorem headT_ln {s : SpecM} {m : ModM} (h5 : Ok5 m.atoms) (hn : NoNl s) (h1 : m.steps < 100) (h2 : m.loop < 100) : IsLn (headT s.sorts m) := by
  refine isLn_of (b := [115, 99, 111, 112, 101] ++ (atomsT s.sorts m.atoms ++ ([32, 115, 116, 101, 112, 115, 61] ++ (digT m.steps ++ ([32, 108, 111, 111, 112, 61] ++ digT m.loop))))) ?_ ?_
  · unfold headT; simp only [List.append_assoc]
  · have := headT_nl h5 hn h1 h2
    unfold headT at this
    rw [nl_app, nl_app, nl_app, nl_app, nl_app, nl_app, nl_dig h1, nl_dig h2, atomsT_nl hn.so fun x hx => by have := h5.each x hx; omega] at this
    rw [nl_app, nl_app, nl_app, nl_app, nl_app, nl_dig h1, nl_dig h2, atomsT_nl hn.so fun x hx => by have := h5.each x hx; omega]
    rfl
theorem fmtL_ln {s : SpecM} {m : ModM} (hn : NoNl s) (hv : validB (fullR m.atoms) s m = true) : ∀ x ∈ fmtL s m, IsLn x := by
  obtain ⟨q1, q2, q3, q4⟩ := valid_spec hv
  have h5 := scope5 q1
  obtain ⟨k1, k2, k3, k4, k5, k6, k7⟩ := scopeOk_spec q1
  intro x hx
  unfold fmtL at hx
  rcases List.mem_cons.1 hx with rfl | hx
  · exact headT_ln h5 hn (by omega) (by omega)
  · exact statesL_ln h5 hn.so hn.fs (by omega) x hx
theorem linesL_len {so : List SortM} {at' : List Int} : ∀ {fs : List FieldM} {st : List RelM}, st.length = fs.length → (linesL so at' fs st).length = fs.length
  | [], [], _ => rfl
  | f :: fs, r :: st, h => by
    unfold linesL
    rw [List.length_cons, linesL_len (by simpa using h), List.length_cons]
theorem keep_yes {n q c : Nat} (hc : c < n) : keepI n ((1 + q * (n + 1) + c : Nat) : Int) = true := by
  unfold keepI
  rw [decide_eq_true_eq]
  right
  rw [show ((1 + q * (n + 1) + c : Nat) : Int) - 1 = ((q * (n + 1) + c : Nat) : Int) by omega, show ((n : Int) + 1) = ((n + 1 : Nat) : Int) by omega, ← Int.natCast_emod]
  rw [Nat.mul_comm, Nat.mul_add_mod, Nat.mod_eq_of_lt (by omega)]
  omega
theorem keep_no {n q : Nat} : keepI n ((1 + q * (n + 1) + n : Nat) : Int) = false := by
  unfold keepI
  rw [decide_eq_false_iff_not]
  rintro (h | h)
  · omega
  · apply h
    rw [show ((1 + q * (n + 1) + n : Nat) : Int) - 1 = ((q * (n + 1) + n : Nat) : Int) by omega, show ((n : Int) + 1) = ((n + 1 : Nat) : Int) by omega, ← Int.natCast_emod]
    rw [Nat.mul_comm, Nat.mul_add_mod, Nat.mod_eq_of_lt (by omega)]
theorem sel_lines {so : List SortM} {at' : List Int} {n q : Nat} : ∀ {fs : List FieldM} {st : List RelM} {c : Nat}, st.length = fs.length → c + fs.length = n + 1 → 0 < fs.length → selT n (1 + q * (n + 1) + c) (linesL so at' fs st) = linesT so at' (fs.take (fs.length - 1)) (st.take (fs.length - 1))
  | [f], [r], c, _, hc, _ => by
    have : c = n := by simpa using hc
    subst this
    unfold linesL selT
    rw [keep_no]
    simp [selT, linesL, linesT]
  | f :: f' :: fs, r :: r' :: st, c, h, hc, _ => by
    have hlt : c < n := by simp only [List.length_cons] at hc; omega
    unfold linesL selT
    rw [keep_yes hlt, if_pos rfl, show 1 + q * (n + 1) + c + 1 = 1 + q * (n + 1) + (c + 1) by omega, sel_lines (by simpa using h) (by simp only [List.length_cons] at hc ⊢; omega) (by simp)]
    have e1 : (f :: f' :: fs).length - 1 = ((f' :: fs).length - 1) + 1 := by simp
    rw [e1, List.take_succ_cons, List.take_succ_cons, linesT_c]
  | [f], [], _, h, _, _ => by simp at h
  | [f], _ :: _ :: _, _, h, _, _ => by simp at h
  | _ :: _ :: _, [], _, h, _, _ => by simp at h
  | _ :: _ :: _, [_], _, h, _, _ => by simp at h
theorem sel_states {so : List SortM} {at' : List Int} {fs : List FieldM} (hn : 0 < fs.length) : ∀ {l : List (List RelM)} {q : Nat}, (∀ st ∈ l, st.length = fs.length) → selT fs.length (1 + q * (fs.length + 1)) (statesL so at' fs q l) = statesT so at' (fs.take (fs.length - 1)) q (l.map fun st => st.take (fs.length - 1))
  | [], q, _ => rfl
  | st :: l, q, h => by
    have hl := h st (by simp)
    unfold statesL stateL
    rw [List.cons_append]
    unfold selT
    have hk := keep_yes (n := fs.length) (q := q) (c := 0) hn
    rw [Nat.add_zero] at hk
    rw [hk, if_pos rfl, selT_app, sel_lines hl (by omega) hn, linesL_len hl, show 1 + q * (fs.length + 1) + 1 + fs.length = 1 + (q + 1) * (fs.length + 1) by rw [Nat.add_mul]; omega, show ((q : Int) + 1) = ((q + 1 : Nat) : Int) by omega, sel_states hn fun st hst => h st (by simp [hst]), List.map_cons]
    conv => rhs; unfold statesT stateT
    simp only [List.append_assoc]
    rfl
def lessS (s : SpecM) : SpecM := ⟨s.sorts, s.fields.take (s.fields.length - 1), s.preds, s.facts⟩
def lessM (s : SpecM) (m : ModM) : ModM := ⟨m.atoms, m.steps, m.states.map fun st => st.take (s.fields.length - 1), m.loop⟩
theorem sel_fmt {s : SpecM} {m : ModM} (hn : 0 < s.fields.length) (h : ∀ st ∈ m.states, st.length = s.fields.length) : selT s.fields.length 0 (fmtL s m) = fmtT (lessS s) (lessM s m) := by
  unfold fmtL
  unfold selT
  have hk : keepI s.fields.length ((0 : Nat) : Int) = true := by unfold keepI; simp
  rw [hk, if_pos rfl]
  have h1 := sel_states (so := s.sorts) (at' := m.atoms) (fs := s.fields) hn (l := m.states) (q := 0) h
  rw [show 1 + 0 * (s.fields.length + 1) = 0 + 1 by omega] at h1
  rw [show ((0 : Nat) : Int) = 0 from rfl] at h1
  rw [h1]
  rfl
theorem less_ok {s : SpecM} {m : ModM} (hp : SpP s) (hv : validB (fullR m.atoms) s m = true) : FmtOk (lessS s) (lessM s m) := by
  have h := fmt_ok hp hv
  have hsub : ∀ f ∈ (lessS s).fields, f ∈ s.fields := fun f hf => List.mem_of_mem_take hf
  have hr := fun st hst => (valid_rel hv (st := st) hst)
  refine ⟨⟨h.sp.so, h.sp.nz, ?_, fun f hf => h.sp.fz f (hsub f hf)⟩, h.at5, h.sa, h.st, h.lp, ?_, ?_, ?_, ?_⟩
  · have := h.sp.fs
    show (s.fields.take _).length ≤ _
    rw [List.length_take]; omega
  · have := h.ss
    show (m.states.map _).length ≤ _
    rw [List.length_map]; exact this
  · intro st hst
    obtain ⟨st', h1, rfl⟩ := List.mem_map.1 hst
    have := h.sf st' h1
    show (st'.take _).length = (s.fields.take _).length
    rw [List.length_take, List.length_take, this]
  · intro st hst r hr
    obtain ⟨st', h1, rfl⟩ := List.mem_map.1 hst
    exact h.ts st' h1 r (List.mem_of_mem_take hr)
  · -- each of its lines is one of the text's
    obtain ⟨q1, q2, q3, q4⟩ := valid_spec hv
    have h5 := scope5 q1
    obtain ⟨k1, k2, k3, k4, k5, k6, k7⟩ := scopeOk_spec q1
    by_cases hn : 0 < s.fields.length
    · rw [← sel_fmt hn h.sf]
      have hle : ∀ (l : List Bt) (k : Nat), (selT s.fields.length k l).length ≤ l.flatten.length := by
        intro l
        induction l with
        | nil => intro k; simp [selT]
        | cons x l ih =>
          intro k
          unfold selT
          have := ih (k + 1)
          rw [List.flatten_cons, List.length_append, List.length_append]
          split
          · omega
          · simp only [List.length_nil]; omega
      have h1 := hle (fmtL s m) 0
      rw [fmtL_flat] at h1
      have := h.len
      omega
    · have hz : s.fields = [] := List.length_eq_zero_iff.1 (by omega)
      have e : fmtT (lessS s) (lessM s m) = fmtT s m := by
        have e1 : lessS s = s := by unfold lessS; rw [hz]; cases s; simp at hz; simp [hz]
        have e2 : lessM s m = m := by
          unfold lessM
          rw [hz]
          cases m with
          | mk a b c d =>
            simp only [List.length_nil, Nat.zero_sub, List.take_zero, ModM.mk.injEq, true_and, and_true]
            apply List.ext_getElem (by simp)
            intro j h1 h2
            have := h.sf _ (List.getElem_mem h2)
            rw [hz] at this
            simp only [List.getElem_map]
            exact (List.length_eq_zero_iff.1 this).symm
        rw [e1, e2]
      rw [e]; exact h.len
structure Scan (full : Bt) (lns : List Bt) (j i : Nat) : Prop where
  jn : j ≤ lns.length
  fr : (lns.take j).flatten.length ≤ i
  hi : i ≤ full.length
  no : ∀ q, (lns.take j).flatten.length ≤ q → q < i → ¬ byteAt (mkS full) q = 10
theorem byte_ten {l : Bt} {k : Nat} (h : k < l.length) : byteAt (mkS l) k = 10 ↔ l[k] = 10 := by
  have h5 : byteAt (mkS l) k = ((l[k].toNat : Nat) : Int) := by
    unfold byteAt mkS
    show (((l.getD k 0).toNat : Nat) : Int) = _
    rw [List.getD_eq_getElem?_getD, List.getElem?_eq_getElem h]; rfl
  rw [h5]
  constructor
  · intro e
    exact UInt8.toNat_inj.1 (by simpa using (show l[k].toNat = 10 by omega))
  · intro e; rw [e]; rfl
theorem scan_at {full : Bt} {lns : List Bt} (hf : lns.flatten = full) (hl : ∀ x ∈ lns, IsLn x) {j : Nat} (hj : j < lns.length) :
    (lns.take (j + 1)).flatten.length = (lns.take j).flatten.length + lns[j].length ∧ 1 ≤ lns[j].length ∧ (lns.take j).flatten.length + lns[j].length ≤ full.length ∧ byteAt (mkS full) ((lns.take j).flatten.length + lns[j].length - 1) = 10 ∧ (∀ q, (lns.take j).flatten.length ≤ q → q < (lns.take j).flatten.length + lns[j].length - 1 → ¬ byteAt (mkS full) q = 10) ∧ (mkS full).extract (lns.take j).flatten.length ((lns.take j).flatten.length + lns[j].length) = mkS lns[j] := by
  obtain ⟨b, hb, hnb⟩ := hl _ (List.getElem_mem hj)
  have e1 : full = (lns.take j).flatten ++ (lns[j] ++ (lns.drop (j + 1)).flatten) := by
    rw [← hf]
    conv => lhs; rw [← List.take_append_drop j lns, List.flatten_append, List.drop_eq_getElem_cons hj, List.flatten_cons]
  have hlen : lns[j].length = b.length + 1 := by rw [hb]; simp
  refine ⟨?_, by omega, ?_, ?_, ?_, ?_⟩
  · rw [List.take_succ_eq_append_getElem hj, List.flatten_append, List.length_append]; simp
  · rw [e1]; simp only [List.length_append]; omega
  · have hlt : (lns.take j).flatten.length + lns[j].length - 1 < full.length := by rw [e1]; simp only [List.length_append]; omega
    rw [byte_ten hlt]
    rw [List.getElem_of_eq e1, List.getElem_append_right (by omega), List.getElem_append_left (by omega)]
    rw [List.getElem_of_eq hb, List.getElem_append_right (by omega)]
    simp
  · intro q h1 h2 h3
    have hlt : q < full.length := by rw [e1]; simp only [List.length_append]; omega
    rw [byte_ten hlt, List.getElem_of_eq e1, List.getElem_append_right (by omega), List.getElem_append_left (by omega), List.getElem_of_eq hb, List.getElem_append_left (by omega)] at h3
    exact (List.count_eq_zero.1 hnb) (h3 ▸ List.getElem_mem _)
  · rw [mk_ext, mk_inj]
    conv => lhs; rw [e1]
    rw [List.drop_left, List.take_left' (by omega)]
theorem scan_nl {full : Bt} {lns : List Bt} (hf : lns.flatten = full) (hl : ∀ x ∈ lns, IsLn x) {j i : Nat} (h : Scan full lns j i) (hi : i < full.length) (hb : byteAt (mkS full) i = 10) :
    ∃ hj : j < lns.length, i + 1 = (lns.take j).flatten.length + lns[j].length ∧ (mkS full).extract (lns.take j).flatten.length (i + 1) = mkS lns[j] ∧ (lns.take (j + 1)).flatten.length = i + 1 ∧ Scan full lns (j + 1) (i + 1) := by
  have hjn := h.jn
  have hfr := h.fr
  have hj : j < lns.length := by
    rcases Nat.lt_or_ge j lns.length with h' | h'
    · exact h'
    · rw [List.take_of_length_le h', hf] at hfr; omega
  obtain ⟨a1, a2, a3, a4, a5, a6⟩ := scan_at hf hl hj
  have e : i + 1 = (lns.take j).flatten.length + lns[j].length := by
    rcases Nat.lt_trichotomy (i + 1) ((lns.take j).flatten.length + lns[j].length) with h' | h' | h'
    · exact absurd hb (a5 i hfr (by omega))
    · exact h'
    · exact absurd a4 (h.no _ (by omega) (by omega))
  refine ⟨hj, e, by rw [e]; exact a6, by omega, by omega, by omega, by omega, fun q h1 h2 => ?_⟩
  omega
theorem scan_st {full : Bt} {lns : List Bt} {j i : Nat} (h : Scan full lns j i) (hi : i < full.length) (hb : ¬ byteAt (mkS full) i = 10) : Scan full lns j (i + 1) := by
  refine ⟨h.jn, by have := h.fr; omega, hi, fun q h1 h2 => ?_⟩
  by_cases e : q = i
  · subst e; exact hb
  · exact h.no q h1 (by omega)
theorem scan_end {full : Bt} {lns : List Bt} (hf : lns.flatten = full) (hl : ∀ x ∈ lns, IsLn x) {j : Nat} (h : Scan full lns j full.length) : j = lns.length := by
  have hjn := h.jn
  rcases Nat.lt_or_ge j lns.length with h' | h'
  · obtain ⟨a1, a2, a3, a4, a5, a6⟩ := scan_at hf hl h'
    exact absurd a4 (h.no _ (by omega) (by omega))
  · omega
theorem selT_take {n : Nat} {lns : List Bt} {j : Nat} (hj : j < lns.length) : selT n 0 (lns.take (j + 1)) = selT n 0 (lns.take j) ++ (if keepI n j then lns[j] else []) := by
  rw [List.take_succ_eq_append_getElem hj, selT_app, List.length_take, Nat.min_eq_left (by omega), Nat.zero_add]
  simp [selT]
theorem selT_le (n : Nat) : ∀ (l : List Bt) (k : Nat), (selT n k l).length ≤ l.flatten.length
  | [], k => by simp [selT]
  | x :: l, k => by
    rw [selT_c]
    have := selT_le n l (k + 1)
    rw [List.flatten_cons, List.length_append, List.length_append]
    split
    · omega
    · simp only [List.length_nil]; omega
end Go.Ab
/- Chapter 34: the law of a text's fields, walked. -/
namespace Go.Ab
open Go Go.Proofs
open Nat (reduceAdd reduceSub)
set_option maxRecDepth 20000
set_option maxHeartbeats 16000000
theorem mk_cat2 (a b : Bt) : mkS a ++ mkS b = mkS (a ++ b) := by
  apply ByteArray.ext
  rw [ByteArray.data_append]
  show a.toArray ++ b.toArray = (a ++ b).toArray
  simp
theorem sel0 (n : Nat) (lns : List Bt) : mkS (selT n 0 (lns.take 0)) = ⟨#[]⟩ := by rw [List.take_zero]; rfl
attribute [local irreducible] AW AOps thenD inBlockD AR iterEnds roundEndsN inlEnds noGotoD EndsX EndsP byteAt parseF fmtT mkS selT fmtL
theorem lawFld_fn (s : SpecM) (m : ModM) : FnW errT Tryd.prog 4 [spc s, mdl m] (litB true) := by
  have hstay_ := errT_stay
  have hh := head34_fn
  have h1 := few_fn s m
  cases e1 : fewB s m with
  | false =>
    rw [e1] at h1
    obtain ⟨so, fs, p, q⟩ := s
    obtain ⟨ats, stp, sts, lp⟩ := m
    refine FnW.enter hstay_ (n := 108) Tryd.func4 rfl rfl rfl rfl rfl (by decide) fun g hro_ hwt_ hT => ?_; (try refine nz ?_)
    (refine j192 ?_; (with_reducible apply AOps.callW (hf := hh)); (first | (with_reducible assumption) | (refine TB.gs ?_ (by with_reducible assumption); with_reducible assumption) | (refine TB.gi ?_ (by with_reducible assumption); with_reducible assumption) | exact TB.none _); (repeat (first | exact .nil | (refine .cons rfl ?_ ?_; (first | exact .pv _ | exact .own _ _ _ _ rfl | exact .nil _ | exact .any _ | exact .rptr _ | (refine .aggL ?_; repeat (first | exact .nil | (refine .cons ?_ ?_; (first | exact .pv _ | exact .own _ _ _ _ rfl | exact .nil _)))))))); exact rfl; exact rfl; exact (fun h_ => by cases h_); refine j206 ?_; refine j195 ?_; refine j122 ?_; refine j248 ?_; refine AOps.pick_lt rfl rfl rfl rfl rfl rfl ?_; refine j155 ?_; refine j37 ?_; refine j36 ?_; refine thenD_ret ?_)
    (apply ends_ret; (exact Res.one (.tmp rfl rfl)); (refine Le.litB ?_; (rfl)))
  | true =>
  rw [e1] at h1
  obtain ⟨hsp, hsm⟩ := few_spec e1
  have hnl := few_nl e1
  have hss := small_spec hsm
  have h2 := rValid_fn s m (by omega) fun f hf => by have := hss.2 f hf; omega
  rw [valid_eq] at h2
  cases e2 : validB (fullR m.atoms) s m with
  | false =>
    rw [e2] at h2
    obtain ⟨so, fs, p, q⟩ := s
    obtain ⟨ats, stp, sts, lp⟩ := m
    refine FnW.enter hstay_ (n := 108) Tryd.func4 rfl rfl rfl rfl rfl (by decide) fun g hro_ hwt_ hT => ?_; (try refine nz ?_)
    (refine j192 ?_; (with_reducible apply AOps.callW (hf := hh)); (first | (with_reducible assumption) | (refine TB.gs ?_ (by with_reducible assumption); with_reducible assumption) | (refine TB.gi ?_ (by with_reducible assumption); with_reducible assumption) | exact TB.none _); (repeat (first | exact .nil | (refine .cons rfl ?_ ?_; (first | exact .pv _ | exact .own _ _ _ _ rfl | exact .nil _ | exact .any _ | exact .rptr _ | (refine .aggL ?_; repeat (first | exact .nil | (refine .cons ?_ ?_; (first | exact .pv _ | exact .own _ _ _ _ rfl | exact .nil _)))))))); exact rfl; exact rfl; exact (fun h_ => by cases h_); refine j206 ?_; refine j270 ?_; refine zA (h2) ?_; refine j128 ?_; refine zm ?_; refine j248 ?_; refine AOps.pick_lt rfl rfl rfl rfl rfl rfl ?_; refine j155 ?_; refine j37 ?_; refine j36 ?_; refine thenD_ret ?_)
    (apply ends_ret; (exact Res.one (.tmp rfl rfl)); (refine Le.litB ?_; (rfl)))
  | true =>
  rw [e2] at h2
  by_cases hz : (s.fields.length : Int) = 0
  · obtain ⟨so, fs, p, q⟩ := s
    obtain ⟨ats, stp, sts, lp⟩ := m
    simp only at hz
    refine FnW.enter hstay_ (n := 108) Tryd.func4 rfl rfl rfl rfl rfl (by decide) fun g hro_ hwt_ hT => ?_; (try refine nz ?_)
    (refine j192 ?_; (with_reducible apply AOps.callW (hf := hh)); (first | (with_reducible assumption) | (refine TB.gs ?_ (by with_reducible assumption); with_reducible assumption) | (refine TB.gi ?_ (by with_reducible assumption); with_reducible assumption) | exact TB.none _); (repeat (first | exact .nil | (refine .cons rfl ?_ ?_; (first | exact .pv _ | exact .own _ _ _ _ rfl | exact .nil _ | exact .any _ | exact .rptr _ | (refine .aggL ?_; repeat (first | exact .nil | (refine .cons ?_ ?_; (first | exact .pv _ | exact .own _ _ _ _ rfl | exact .nil _)))))))); exact rfl; exact rfl; exact (fun h_ => by cases h_); refine j206 ?_; refine j270 ?_; refine zA (h2) ?_; refine j128 ?_; refine zm ?_; refine zl ?_; refine zm ?_; refine j294 ?_; refine j214 ?_; refine zc ?_; refine j37 ?_; refine j36 ?_; refine thenD_ret ?_)
    (apply ends_ret; (exact Res.one (.tmp rfl rfl)); (refine Le.litB ?_; (rfl)))
  have f1 := format_fn s m (fmt_ok hsp e2)
  have f2 := format_fn (lessS s) (lessM s m) (less_ok hsp e2)
  have hsel := sel_fmt (s := s) (m := m) (by omega) (fmt_ok hsp e2).sf
  have hfl := fmtL_flat s m
  have hln := fmtL_ln hnl e2
  have hsf := (fmt_ok hsp e2).sf
  rw [← hsel] at f2
  have hlen := fmt_le hsp e2
  have kz := mk_size (fmtT s m)
  generalize fmtL s m = lns at *
  generalize fmtT s m = t at *
  obtain ⟨so, fs, p, q⟩ := s
  obtain ⟨ats, stp, sts, lp⟩ := m
  simp only at hss hsf hz
  unfold lessS lessM at f2
  simp only at f2
  clear e1 e2 hsp hsm hnl
  have hN : fs.length - 1 = ((fs.length : Int) - 1).toNat := by omega
  rw [hN] at f2
  simp only [spc, mdl, stts, rels, List.map_map, Function.comp_def] at f2
  have hl4 : sts.length ≤ 64 := by omega
  refine FnW.enter hstay_ (n := 108) Tryd.func4 rfl rfl rfl rfl rfl (by decide) fun g hro_ hwt_ hT => ?_; (try refine nz ?_)
  (refine j192 ?_; (with_reducible apply AOps.callW (hf := hh)); (first | (with_reducible assumption) | (refine TB.gs ?_ (by with_reducible assumption); with_reducible assumption) | (refine TB.gi ?_ (by with_reducible assumption); with_reducible assumption) | exact TB.none _); (repeat (first | exact .nil | (refine .cons rfl ?_ ?_; (first | exact .pv _ | exact .own _ _ _ _ rfl | exact .nil _ | exact .any _ | exact .rptr _ | (refine .aggL ?_; repeat (first | exact .nil | (refine .cons ?_ ?_; (first | exact .pv _ | exact .own _ _ _ _ rfl | exact .nil _)))))))); exact rfl; exact rfl; exact (fun h_ => by cases h_); refine j206 ?_; refine j270 ?_; refine zA (h2) ?_; refine j128 ?_; refine zm ?_; refine zl ?_; refine zm ?_; refine j294 ?_; refine AOps.pick_lf rfl rfl rfl rfl rfl rfl ?_; refine j89 ?_; refine j2 ?_; refine zL ?_; refine j23 ?_; refine zq ?_; refine j200 ?_; refine AOps.fieldAddrN 27 1 1 rfl rfl rfl rfl ?_; refine zb ?_; refine zm ?_; refine AOps.sub rfl rfl rfl rfl rfl (by omega) ?_; refine AOps.slice_toI rfl rfl rfl rfl rfl rfl rfl (by omega) (by omega) ?_; (with_reducible apply AOps.appendS); exact rfl; (first | exact .pv rfl | exact .own rfl | exact .nil rfl); (iterate 9 exact rfl); (first | omega | (simp only [List.length_map, List.length_append, List.length_cons, List.length_nil, List.length_drop, List.length_take, List.length_set, chunk_len]; omega)); refine nz ?_; refine AOps.fieldAddrN 27 1 1 rfl rfl rfl rfl ?_; refine j17 ?_; refine zd ?_; refine zq ?_; refine zL ?_; refine j23 ?_; refine zq ?_; refine AOps.fieldAddrN 33 1 2 rfl rfl rfl rfl ?_; refine j17 ?_; refine zd ?_; refine zo ?_; refine zq ?_; refine j114 ?_)
  (refine nz ?_; apply AW.loopR [8, 7, 6, 5, 4, 3, 2, 1] [2, 3, 1, 0] (fun k : Nat => ([(9, litI k)] : List (Nat × AV))) (fun k : Nat => ([(4, some (.box [.pv (ints ats), litI stp, .own 20 42 1 ((sts.take k).map fun st => [PV.slice 2 ((st.take ((fs.length : Int) - 1).toNat).map encR)]), litI lp])), (20, some .row)] : List (Nat × Option Ob))) (fun k : Nat => k ≤ sts.length) (fun k : Nat => sts.length - k) (0); (conv => lhs; simp only [Nf.lpR, Nf.all, Nat.reduceBEq, reduceAdd, reduceSub]); (all_goals skip))
  · exact Nat.zero_le _
  · exact weak rfl (by (refine ⟨.intE (by first | with_reducible rfl | (rfl)), ?_⟩; (iterate 2 refine ⟨.eq rfl rfl, ?_⟩); refine ⟨.intE (by first | with_reducible rfl | (rfl)), ?_⟩; (iterate 2 refine ⟨.boolE (by first | with_reducible rfl | (rfl)), ?_⟩); (iterate 3 refine ⟨.eq rfl rfl, ?_⟩); exact trivial)) (by (refine ⟨.box _ rfl ?_, ?_⟩; refine ⟨.pvE (by first | with_reducible rfl | (rfl)), ?_⟩; refine ⟨.intE (by first | with_reducible rfl | (rfl)), ?_⟩; refine ⟨.nilown _ _ _ rfl rfl, ?_⟩; refine ⟨.intE (by first | with_reducible rfl | (rfl)), ?_⟩; exact trivial; refine ⟨.newrow rfl, ?_⟩; refine ⟨.box _ rfl ?_, ?_⟩; refine ⟨.pvE (by first | with_reducible rfl | (rfl)), ?_⟩; refine ⟨.ownE (by first | with_reducible rfl | (rfl)) rfl, ?_⟩; (iterate 2 refine ⟨.eq rfl rfl, ?_⟩); exact trivial; refine ⟨.row rfl, ?_⟩; refine ⟨.box _ rfl ?_, ?_⟩; refine ⟨.pvE (by first | with_reducible rfl | (rfl)), ?_⟩; refine ⟨.intE (by first | with_reducible rfl | (rfl)), ?_⟩; refine ⟨.pvE (by first | with_reducible rfl | (rfl)), ?_⟩; refine ⟨.intE (by first | with_reducible rfl | (rfl)), ?_⟩; exact trivial; refine ⟨.box _ rfl ?_, ?_⟩; (iterate 2 refine ⟨.pvE (by first | with_reducible rfl | (rfl)), ?_⟩); (iterate 2 refine ⟨.eq rfl rfl, ?_⟩); (iterate 2 exact trivial))) rfl
  rintro k hk
  by_cases hlt : k < sts.length
  · have hl := hsf _ (List.getElem_mem hlt)
    (refine j109 ?_; refine AW.regionM [0, 1, 2, 3, 4, 5, 6, 7, 8, 9] [13] rfl (by assumption) (by kernel_rfl) (by kernel_rfl) rfl ?_; show AOps .held _ _ _ [_, _, _, _, _, _, _, _, _, _] _ _; refine j19 ?_; refine j309 ?_; (focus ((with_reducible apply AOps.index_map); (iterate 7 exact rfl); rotate_left; omega)); refine zr ?_; refine zm ?_; refine AOps.sub rfl rfl rfl rfl rfl (by omega) ?_; refine AOps.slice_toI rfl rfl rfl rfl rfl rfl rfl (by omega) (by omega) ?_; refine j5 ?_; intro k_ hk_; refine nz ?_; refine AR.step1M (i := 10) rfl (by kernel_rfl) rfl ?_; intro g_ hgro_ hw_; refine j87 ?_; refine j5 ?_; refine AR.step1M (i := 11) rfl (by kernel_rfl) rfl ?_; intro g_ hgro_ hw_; (with_reducible apply AOps.appendS); exact rfl; (first | exact .pv rfl | exact .own rfl | exact .nil rfl); (iterate 9 exact rfl); (first | omega | (simp only [List.length_map, List.length_append, List.length_cons, List.length_nil, List.length_drop, List.length_take, List.length_set, chunk_len]; omega)); refine j311 ?_; refine AR.readsM [12] (by kernel_rfl) (by kernel_rfl) (by kernel_rfl) (by kernel_rfl) ?_; intro g_ hgro_; show AOps .held _ _ _ [_] _ _; refine AOps.fieldAddrN 33 1 2 rfl rfl rfl rfl ?_; refine j5 ?_; intro k_ hk_; refine nz ?_; refine AR.step1LM (i := 13) rfl (by kernel_rfl) rfl (by kernel_rfl) ?_; intro g_ hgro_ hwt2_; refine j17 ?_; refine j93 ?_; refine j9 ?_; refine j324 ?_)
    exact ⟨k + 1, by omega, by omega, weak rfl (by (refine ⟨.intE (by first | with_reducible rfl | (first | rfl | (rw [List.take_succ_eq_append_getElem hlt, List.map_append]; rfl))), ?_⟩; (iterate 2 refine ⟨.eq rfl rfl, ?_⟩); refine ⟨.intE (by first | with_reducible rfl | (first | rfl | (rw [List.take_succ_eq_append_getElem hlt, List.map_append]; rfl))), ?_⟩; refine ⟨.boolE (by first | with_reducible rfl | (first | rfl | (rw [List.take_succ_eq_append_getElem hlt, List.map_append]; rfl))), ?_⟩; refine ⟨.boolE (by first | with_reducible rfl | (first | rfl | (rw [List.take_succ_eq_append_getElem hlt, List.map_append]; rfl))), ?_⟩; (iterate 3 refine ⟨.eq rfl rfl, ?_⟩); exact trivial)) (by (refine ⟨.box _ rfl ?_, ?_⟩; refine ⟨.pvE (by first | with_reducible rfl | (first | rfl | (rw [List.take_succ_eq_append_getElem hlt, List.map_append]; rfl))), ?_⟩; refine ⟨.intE (by first | with_reducible rfl | (first | rfl | (rw [List.take_succ_eq_append_getElem hlt, List.map_append]; rfl))), ?_⟩; refine ⟨.ownE (by first | with_reducible rfl | (first | rfl | (rw [List.take_succ_eq_append_getElem hlt, List.map_append]; rfl))) rfl, ?_⟩; refine ⟨.intE (by first | with_reducible rfl | (first | rfl | (rw [List.take_succ_eq_append_getElem hlt, List.map_append]; rfl))), ?_⟩; exact trivial; refine ⟨.row rfl, ?_⟩; refine ⟨.box _ rfl ?_, ?_⟩; refine ⟨.pvE (by first | with_reducible rfl | (first | rfl | (rw [List.take_succ_eq_append_getElem hlt, List.map_append]; rfl))), ?_⟩; refine ⟨.ownE (by first | with_reducible rfl | (first | rfl | (rw [List.take_succ_eq_append_getElem hlt, List.map_append]; rfl))) rfl, ?_⟩; (iterate 2 refine ⟨.eq rfl rfl, ?_⟩); exact trivial; refine ⟨.row rfl, ?_⟩; refine ⟨.box _ rfl ?_, ?_⟩; refine ⟨.pvE (by first | with_reducible rfl | (first | rfl | (rw [List.take_succ_eq_append_getElem hlt, List.map_append]; rfl))), ?_⟩; refine ⟨.intE (by first | with_reducible rfl | (first | rfl | (rw [List.take_succ_eq_append_getElem hlt, List.map_append]; rfl))), ?_⟩; refine ⟨.pvE (by first | with_reducible rfl | (first | rfl | (rw [List.take_succ_eq_append_getElem hlt, List.map_append]; rfl))), ?_⟩; refine ⟨.intE (by first | with_reducible rfl | (first | rfl | (rw [List.take_succ_eq_append_getElem hlt, List.map_append]; rfl))), ?_⟩; exact trivial; refine ⟨.box _ rfl ?_, ?_⟩; refine ⟨.pvE (by first | with_reducible rfl | (first | rfl | (rw [List.take_succ_eq_append_getElem hlt, List.map_append]; rfl))), ?_⟩; refine ⟨.pvE (by first | with_reducible rfl | (first | rfl | (rw [List.take_succ_eq_append_getElem hlt, List.map_append]; rfl))), ?_⟩; (iterate 2 refine ⟨.eq rfl rfl, ?_⟩); (iterate 2 exact trivial))) rfl⟩
  · obtain rfl : k = sts.length := by omega
    rw [List.take_length]
    (refine j54 ?_; refine j19 ?_; refine zn ?_; refine j120 ?_; refine j156 ?_; refine zA (f1) ?_; (iterate 3 refine j132 ?_); refine j7 ?_; refine j187 ?_)
    (refine nz ?_; apply AW.loopR [10, 8, 7, 6, 5, 4, 2, 1] [4, 20, 2, 3, 0] (fun p : Nat × Nat => ([(14, litI p.2), (13, litI ((lns.take p.1).flatten.length : Nat)), (12, litI p.1), (11, litS (mkS (selT fs.length 0 (lns.take p.1))))] : List (Nat × AV))) (fun p : Nat × Nat => ([] : List (Nat × Option Ob))) (fun p : Nat × Nat => Scan t lns p.1 p.2) (fun p : Nat × Nat => t.length - p.2) ((0, 0)); (conv => lhs; simp only [Nf.lpR, Nf.all, Nat.reduceBEq, reduceAdd, reduceSub]); (all_goals skip))
    · exact ⟨Nat.zero_le _, Nat.le_refl _, Nat.zero_le _, fun q _ h => absurd h (Nat.not_lt_zero _)⟩
    · exact weak rfl (by (refine ⟨.intE (by first | with_reducible rfl | (first | rfl | exact (sel0 _ _).symm)), ?_⟩; refine ⟨.intE (by first | with_reducible rfl | (first | rfl | exact (sel0 _ _).symm)), ?_⟩; refine ⟨.intE (by first | with_reducible rfl | (first | rfl | exact (sel0 _ _).symm)), ?_⟩; refine ⟨.strE (by first | with_reducible rfl | (first | rfl | exact (sel0 _ _).symm)), ?_⟩; refine ⟨.strE (by first | with_reducible rfl | (first | rfl | exact (sel0 _ _).symm)), ?_⟩; (iterate 2 refine ⟨.eq rfl rfl, ?_⟩); refine ⟨.intE (by first | with_reducible rfl | (first | rfl | exact (sel0 _ _).symm)), ?_⟩; refine ⟨.boolE (by first | with_reducible rfl | (first | rfl | exact (sel0 _ _).symm)), ?_⟩; refine ⟨.boolE (by first | with_reducible rfl | (first | rfl | exact (sel0 _ _).symm)), ?_⟩; (iterate 2 refine ⟨.eq rfl rfl, ?_⟩); exact trivial)) (by (refine ⟨.box _ rfl ?_, ?_⟩; refine ⟨.pvE (by first | with_reducible rfl | (first | rfl | exact (sel0 _ _).symm)), ?_⟩; refine ⟨.intE (by first | with_reducible rfl | (first | rfl | exact (sel0 _ _).symm)), ?_⟩; refine ⟨.ownE (by first | with_reducible rfl | (first | rfl | exact (sel0 _ _).symm)) rfl, ?_⟩; refine ⟨.intE (by first | with_reducible rfl | (first | rfl | exact (sel0 _ _).symm)), ?_⟩; exact trivial; refine ⟨.row rfl, ?_⟩; refine ⟨.box _ rfl ?_, ?_⟩; refine ⟨.pvE (by first | with_reducible rfl | (first | rfl | exact (sel0 _ _).symm)), ?_⟩; refine ⟨.ownE (by first | with_reducible rfl | (first | rfl | exact (sel0 _ _).symm)) rfl, ?_⟩; (iterate 2 refine ⟨.eq rfl rfl, ?_⟩); exact trivial; refine ⟨.row rfl, ?_⟩; refine ⟨.box _ rfl ?_, ?_⟩; refine ⟨.pvE (by first | with_reducible rfl | (first | rfl | exact (sel0 _ _).symm)), ?_⟩; refine ⟨.pvE (by first | with_reducible rfl | (first | rfl | exact (sel0 _ _).symm)), ?_⟩; (iterate 2 refine ⟨.eq rfl rfl, ?_⟩); (iterate 2 exact trivial))) rfl
    rintro ⟨j, i⟩ hsc
    simp only at hsc ⊢
    have hi1 := hsc.hi
    have hi2 := hsc.fr
    have hi3 := hsc.jn
    by_cases hlt : i < t.length
    · by_cases hb : byteAt (mkS t) i = 10
      · have hb' : ¬ ¬ byteAt (mkS t) i = 10 := fun h => h hb
        obtain ⟨hj, e, hx, hfr, hs'⟩ := scan_nl hfl hln hsc hlt hb
        have hx' : (mkS t).extract ((((lns.take j).flatten.length : Nat) : Int)).toNat ((i : Int) + 1).toNat = mkS lns[j] := by
          rw [Int.toNat_natCast, show ((i : Int) + 1).toNat = i + 1 by omega]; exact hx
        have ht := selT_take (n := fs.length) hj
        have hfr2 : ((((lns.take (j + 1)).flatten.length : Nat)) : Int) = (i : Int) + 1 := by omega
        have hjl : j ≤ t.length := by
          have h1 : ∀ (l : List Bt), (∀ x ∈ l, IsLn x) → l.length ≤ l.flatten.length := by
            intro l
            induction l with
            | nil => intro _; simp
            | cons x l ih =>
              intro h
              obtain ⟨b, hb, _⟩ := h x (by simp)
              have := ih fun y hy => h y (by simp [hy])
              rw [List.flatten_cons, List.length_append, List.length_cons, hb]
              simp only [List.length_append, List.length_cons, List.length_nil]
              omega
          have h2 := h1 (lns.take j) fun x hx => hln x (List.mem_of_mem_take hx)
          rw [List.length_take, Nat.min_eq_left (by omega)] at h2
          omega
        have k1 := mk_size (selT fs.length 0 (lns.take j))
        have k2 := selT_le fs.length (lns.take j) 0
        have k3 : ((mkS t).extract ((((lns.take j).flatten.length : Nat) : Int)).toNat ((i : Int) + 1).toNat).size = lns[j].length := by rw [hx', mk_size]
        have hm1 := Int.emod_nonneg ((j : Int) - 1) (show ((fs.length : Int) + 1) ≠ 0 by omega)
        have hm2 := Int.emod_lt_of_pos ((j : Int) - 1) (show 0 < ((fs.length : Int) + 1) by omega)
        by_cases hz0 : (j : Int) = 0
        · have hcat : mkS (selT fs.length 0 (lns.take j)) ++ (mkS t).extract ((((lns.take j).flatten.length : Nat) : Int)).toNat ((i : Int) + 1).toNat = mkS (selT fs.length 0 (lns.take (j + 1))) := by
            rw [hx', mk_cat2, ht, show keepI fs.length j = true by unfold keepI; exact decide_eq_true (.inl hz0), if_pos rfl]
          (refine j91 ?_; refine j89 ?_; refine zo ?_; refine j37 ?_; refine AOps.eql rfl rfl rfl rfl rfl ?_; refine j329 ?_; refine zT ?_; refine j155 ?_; refine j110 ?_; (iterate 4 refine zm ?_); refine zj ?_; refine AOps.slice_strFT rfl rfl rfl rfl rfl rfl rfl rfl (by omega) (by omega) (by omega) ?_; (with_reducible apply AOps.catS); (iterate 5 exact rfl); (first | omega | decide | (simp only [ByteArray.size_append]; omega)); refine j126 ?_; refine j332 ?_)
          exact j11
        by_cases hk : ((j : Int) - 1) % ((fs.length : Int) + 1) = fs.length
        · have hk' : ¬ ¬ ((j : Int) - 1) % ((fs.length : Int) + 1) = fs.length := fun h => h hk
          have hcat : mkS (selT fs.length 0 (lns.take j)) = mkS (selT fs.length 0 (lns.take (j + 1))) := by
            rw [ht, show keepI fs.length j = false by unfold keepI; exact decide_eq_false (fun h => h.elim hz0 fun h => h hk)]
            simp
          (refine j263 ?_; refine j89 ?_; refine j37 ?_; refine j332 ?_)
          exact j11
        · have hcat : mkS (selT fs.length 0 (lns.take j)) ++ (mkS t).extract ((((lns.take j).flatten.length : Nat) : Int)).toNat ((i : Int) + 1).toNat = mkS (selT fs.length 0 (lns.take (j + 1))) := by
            rw [hx', mk_cat2, ht, show keepI fs.length j = true by unfold keepI; exact decide_eq_true (.inr hk), if_pos rfl]
          (refine j263 ?_; refine j312 ?_; refine j110 ?_; (iterate 4 refine zm ?_); refine zj ?_; refine AOps.slice_strFT rfl rfl rfl rfl rfl rfl rfl rfl (by omega) (by omega) (by omega) ?_; (with_reducible apply AOps.catS); (iterate 5 exact rfl); (first | omega | decide | (simp only [ByteArray.size_append]; omega)); refine j126 ?_; refine j332 ?_)
          exact j11
      · (refine j91 ?_; refine j312 ?_; refine AW.exit ?_; refine thenD_exit ?_; refine inBlockD_exit ?_; refine thenD_n ?_; refine j110 ?_; refine j324 ?_)
        exact ⟨(j, i + 1), scan_st hsc hlt hb, by simp only; omega, weak rfl (by (refine ⟨.intE (by first | with_reducible rfl | (rfl)), ?_⟩; (iterate 2 refine ⟨.intE (by first | with_reducible rfl | (rfl)), ?_⟩); (iterate 2 refine ⟨.strE (by first | with_reducible rfl | (rfl)), ?_⟩); (iterate 2 refine ⟨.eq rfl rfl, ?_⟩); refine ⟨.intE (by first | with_reducible rfl | (rfl)), ?_⟩; (iterate 2 refine ⟨.boolE (by first | with_reducible rfl | (rfl)), ?_⟩); (iterate 2 refine ⟨.eq rfl rfl, ?_⟩); exact trivial)) (by (refine ⟨.box _ rfl ?_, ?_⟩; refine ⟨.pvE (by first | with_reducible rfl | (rfl)), ?_⟩; refine ⟨.intE (by first | with_reducible rfl | (rfl)), ?_⟩; refine ⟨.ownE (by first | with_reducible rfl | (rfl)) rfl, ?_⟩; refine ⟨.intE (by first | with_reducible rfl | (rfl)), ?_⟩; exact trivial; refine ⟨.row rfl, ?_⟩; refine ⟨.box _ rfl ?_, ?_⟩; refine ⟨.pvE (by first | with_reducible rfl | (rfl)), ?_⟩; refine ⟨.ownE (by first | with_reducible rfl | (rfl)) rfl, ?_⟩; (iterate 2 refine ⟨.eq rfl rfl, ?_⟩); exact trivial; refine ⟨.row rfl, ?_⟩; refine ⟨.box _ rfl ?_, ?_⟩; (iterate 2 refine ⟨.pvE (by first | with_reducible rfl | (rfl)), ?_⟩); (iterate 2 refine ⟨.eq rfl rfl, ?_⟩); (iterate 2 exact trivial))) rfl⟩
    · obtain rfl : i = t.length := by omega
      obtain rfl := scan_end hfl hln hsc
      rw [List.take_length]
      (refine j180 ?_; refine AOps.len_str rfl rfl rfl rfl ?_; refine j120 ?_; (iterate 2 refine zm ?_); refine j270 ?_; refine zA (f2) ?_; refine zl ?_; refine zm ?_; refine zl ?_; refine AOps.eqlS rfl rfl rfl rfl rfl ?_; refine AOps.pick_lt rfl rfl rfl rfl rfl rfl ?_; refine j36 ?_)
      (apply ends_ret; (exact Res.one (.tmp rfl rfl)); (refine Le.litB ?_; (first | rfl | exact decide_eq_true rfl | exact (decide_eq_true rfl).symm)))
end Go.Ab
