/- Two valid models have the same table if and only if they are equal. No conditions. -/
import Derived.Test.YtijkecidjjicbaaGreatDoorAqM2
import Derived.Test.YtijkecidjjicbaaGreatDoorAbZ
import Derived.Test.YtijkecidjjicbaaGreatDoorAbL3
import Derived.Test.YtijkecidjjicbaaGreatDoorAbL2
import Derived.Test.YtijkecidjjicbaaGreatDoorAqS
import Derived.Test.YtijkecidjjicbaaGreatDoorAbL4
import Derived.Test.YtijkecidjjicbaaGreatDoorRows
import Derived.Test.YtijkecidjjicbaaGreatDoorTie
import Derived.Test.YtijkecidjjicbaaGreatDoorCards
import Derived.SevenTiedAt
import Derived.LaidMore
import Derived.Stop.Joined
import Derived.Stop.LaidErr
import Derived.ChangeMaps5
import Derived.WalkKit
import Derived.ProofKit
import Derived.OpenShut
import Derived.ChangeOld
import Derived.Below
set_option linter.unusedSimpArgs false
set_option linter.unusedVariables false
namespace Go.Ab
open Go Go.Proofs
set_option maxRecDepth 20000
set_option maxHeartbeats 2000000
attribute [local irreducible] AW AOps thenD inBlockD AR iterEnds roundEndsN inlEnds
theorem rSame_fn (a b : List RelM) : Fn Tryz.prog 32 [.pv (rels a), .pv (rels b)] (litB (decide (a = b))) := by
  refine Fn.enter (n := 27) Tryz.func32 rfl rfl rfl rfl rfl (by decide) fun g hro_ hwt_ => ?_; (try refine nz ?_)
  refine AW.len_map 0 rfl fun hlen => ?_
  by_cases hab : a.length = b.length
  · (refine j119 ?_; refine j259 ?_)
    refine AW.loop (fun (k : Nat) => { n := 27, env := [(0, .pv (rels a)), (1, .pv (rels b)), (5, litI k)], objs := [], nx := 0 }) (fun k => k ≤ a.length ∧ a.take k = b.take k) (fun k => a.length - k) 0 ?_ ?_ ?_
    · simp
    · exact weak rfl (by (refine ⟨.eq rfl rfl, ?_⟩; (iterate 2 refine ⟨.eq rfl rfl, ?_⟩); exact trivial)) (by (exact trivial)) rfl
    rintro k ⟨hk, hno⟩
    by_cases hlt : k < a.length
    · have hlt2 : k < b.length := by omega
      have he := rEqual_fn a[k] b[k]
      by_cases heq : a[k] = b[k]
      · rw [decide_eq_true heq] at he
        (refine j199 ?_; refine zn ?_; refine j9 ?_; refine zo ?_)
        refine AW.regionE [0,1,2,3,4,5,6,7] [] rfl (by assumption) (by kernel_rfl) rfl ?_
        show AOps .held _ _ _ [_, _, _, _, _, _, _, _] _ _
        ((iterate 2 refine zm ?_); (focus ((with_reducible apply AOps.index_map); (iterate 7 exact rfl); rotate_left; omega)); refine j206 ?_; (iterate 2 refine zm ?_); (focus ((with_reducible apply AOps.index_map); (iterate 7 exact rfl); rotate_left; omega)); refine j206 ?_; refine j5 ?_)
        intro k_ hk_
        (try refine nz ?_)
        refine AR.step1 (i := 8) rfl (by kernel_rfl) rfl ?_
        intro g_ hgro_ hw_
        
        (refine AOps.call (he) (.cons rfl (.aggL (.cons (.pv _) (.cons (.pv _) .nil))) (.cons rfl (.aggL (.cons (.pv _) (.cons (.pv _) .nil))) .nil)) rfl rfl (fun h_ => by cases h_) ?_; refine j5 ?_)
        refine AR.step1 (i := 9) rfl (by kernel_rfl) rfl ?_
        intro g_ hgro_ hw_
        (refine j298 ?_)
        refine AR.done (by assumption) (by kernel_rfl) ?_
        (refine thenD_n ?_; refine AW.cond_lf rfl rfl ?_; refine j91 ?_)
        exact ⟨k + 1, ⟨by omega, eq_step hno hlt hlt2 heq⟩, by omega, weak rfl (by (refine ⟨.eq rfl rfl, ?_⟩; (iterate 2 refine ⟨.eq rfl rfl, ?_⟩); exact trivial)) (by (exact trivial)) rfl⟩
      · rw [decide_eq_false heq] at he
        have hne : ¬ a = b := by rintro rfl; exact heq rfl
        (refine j199 ?_; refine zn ?_; refine j9 ?_; refine zo ?_)
        refine AW.regionE [0,1,2,3,4,5,6,7] [] rfl (by assumption) (by kernel_rfl) rfl ?_
        show AOps .held _ _ _ [_, _, _, _, _, _, _, _] _ _
        ((iterate 2 refine zm ?_); (focus ((with_reducible apply AOps.index_map); (iterate 7 exact rfl); rotate_left; omega)); refine j206 ?_; (iterate 2 refine zm ?_); (focus ((with_reducible apply AOps.index_map); (iterate 7 exact rfl); rotate_left; omega)); refine j206 ?_; refine j5 ?_)
        intro k_ hk_
        (try refine nz ?_)
        refine AR.step1 (i := 8) rfl (by kernel_rfl) rfl ?_
        intro g_ hgro_ hw_
        
        (refine AOps.call (he) (.cons rfl (.aggL (.cons (.pv _) (.cons (.pv _) .nil))) (.cons rfl (.aggL (.cons (.pv _) (.cons (.pv _) .nil))) .nil)) rfl rfl (fun h_ => by cases h_) ?_; refine j5 ?_)
        refine AR.step1 (i := 9) rfl (by kernel_rfl) rfl ?_
        intro g_ hgro_ hw_
        (refine j298 ?_)
        refine AR.done (by assumption) (by kernel_rfl) ?_
        (refine thenD_n ?_; refine j96 ?_)
        (apply ends_ret; (exact Res.one (.tmp rfl rfl)); (refine Le.litB ?_; (rw [eq_comm, decide_eq_false_iff_not]; exact hne)))
    · have he : a = b := eq_at_end hab hno hlt
      (refine j199 ?_; refine j255 ?_)
      (apply ends_ret; (exact Res.one (.tmp rfl rfl)); (refine Le.litB ?_; (rw [eq_comm, decide_eq_true_iff]; exact he)))
  · have hne : ¬ a = b := by rintro rfl; exact hab rfl
    (refine j119 ?_; refine j195 ?_)
    (apply ends_ret; (exact Res.one (.tmp rfl rfl)); (refine Le.litB ?_; (rw [eq_comm, decide_eq_false_iff_not]; exact hne)))
theorem same_fn (a b : List RelM) : Fn Tryz.prog 54 [.pv (rels a), .pv (rels b)] (litB (decide (a = b))) := by
  refine Fn.enter (n := 8) Tryz.func54 rfl rfl rfl rfl rfl (by decide) fun g hro_ hwt_ => ?_; (try refine nz ?_)
  refine AW.len_map 0 rfl fun hlen => ?_
  by_cases hab : a.length = b.length
  · (refine j182 ?_; (iterate 2 refine zm ?_); (with_reducible apply AOps.inline (hf := Tryz.func84)); (with_reducible assumption); (iterate 10 exact rfl); intro g_ hro_ hwt_; refine nz ?_; refine j119 ?_; refine j92 ?_; refine j114 ?_; refine j321 ?_)
    refine AW.loop (fun (k : Nat) => { n := 32, env := [(1, .pv (rels b)), (2, .clo (.func 51) [] []), (15, .pv (rels a)), (16, litI a.length), (17, litI k)], objs := [], nx := 0 }) (fun k => k ≤ a.length ∧ a.take k = b.take k) (fun k => a.length - k) 0 ?_ ?_ ?_
    · simp
    · exact weak rfl (by (refine ⟨.eq rfl rfl, ?_⟩; (iterate 4 refine ⟨.eq rfl rfl, ?_⟩); exact trivial)) (by (exact trivial)) rfl
    rintro k ⟨hk, hno⟩
    by_cases hlt : k < a.length
    · have hlt2 : k < b.length := by omega
      have he := relEqual_fn a[k] b[k]
      by_cases heq : a[k] = b[k]
      · rw [decide_eq_true heq] at he
        (refine j264 ?_; (focus ((with_reducible apply AOps.index_map); (iterate 7 exact rfl); rotate_left; omega)); refine j134 ?_; (focus ((with_reducible apply AOps.index_map); (iterate 7 exact rfl); rotate_left; omega)); refine j25 ?_; refine zq ?_; refine AOps.move_clo rfl rfl rfl ?_; refine j130 ?_; refine AOps.callT (hf := he) rfl rfl (.cons rfl (.aggL (.cons (.pv _) (.cons (.pv _) .nil))) (.cons rfl (.aggL (.cons (.pv _) (.cons (.pv _) .nil))) .nil)) rfl rfl (fun h_ => by cases h_) ?_; refine j155 ?_)
        exact ⟨k + 1, ⟨by omega, eq_step hno hlt hlt2 heq⟩, by omega, weak rfl (by (refine ⟨.eq rfl rfl, ?_⟩; (iterate 4 refine ⟨.eq rfl rfl, ?_⟩); exact trivial)) (by (exact trivial)) rfl⟩
      · rw [decide_eq_false heq] at he
        have hne : ¬ a = b := by rintro rfl; exact heq rfl
        (refine j264 ?_; (focus ((with_reducible apply AOps.index_map); (iterate 7 exact rfl); rotate_left; omega)); refine j134 ?_; (focus ((with_reducible apply AOps.index_map); (iterate 7 exact rfl); rotate_left; omega)); refine j25 ?_; refine zq ?_; refine AOps.move_clo rfl rfl rfl ?_; refine j130 ?_; refine AOps.callT (hf := he) rfl rfl (.cons rfl (.aggL (.cons (.pv _) (.cons (.pv _) .nil))) (.cons rfl (.aggL (.cons (.pv _) (.cons (.pv _) .nil))) .nil)) rfl rfl (fun h_ => by cases h_) ?_; refine j265 ?_; refine inlEnds_rpv rfl rfl ?_; refine nz ?_; refine j62 ?_)
        (apply ends_ret; (exact Res.one (.tmp rfl rfl)); (refine Le.litB ?_; (rw [eq_comm, decide_eq_false_iff_not]; exact hne)))
    · have he : a = b := eq_at_end hab hno hlt
      (refine j32 ?_; refine j11 ?_; refine inlEnds_rpv rfl rfl ?_; refine nz ?_; refine j62 ?_)
      (apply ends_ret; (exact Res.one (.tmp rfl rfl)); (refine Le.litB ?_; (rw [eq_comm, decide_eq_true_iff]; exact he)))
  · have hne : ¬ a = b := by rintro rfl; exact hab rfl
    (refine j182 ?_; (iterate 2 refine zm ?_); (with_reducible apply AOps.inline (hf := Tryz.func84)); (with_reducible assumption); (iterate 10 exact rfl); intro g_ hro_ hwt_; refine nz ?_; refine j119 ?_; refine j195 ?_; refine inlEnds_rpv rfl rfl ?_; refine nz ?_; refine j62 ?_)
    (apply ends_ret; (exact Res.one (.tmp rfl rfl)); (refine Le.litB ?_; (rw [eq_comm, decide_eq_false_iff_not]; exact hne)))
def idxM (m : ModM) (t : Int) : Int := if t < m.states.length then t else m.loop + (t - m.loop).tmod (m.states.length - m.loop)
end Go.Ab
/- Chapter 07: copies, the state at a time, models held against each other. -/
namespace Go.Ab
open Go Go.Proofs
set_option maxRecDepth 20000
set_option maxHeartbeats 2000000
attribute [local irreducible] AW AOps thenD inBlockD AR iterEnds roundEndsN inlEnds
def SmR (s : List RelM) : Prop := s.length ≤ 100000 ∧ ∀ r ∈ s, r.2.length ≤ 1000000000
structure Lp (m : ModM) : Prop where
  lo : 0 ≤ m.loop
  hi : m.loop < m.states.length
  sm : ∀ s ∈ m.states, SmR s
theorem Lp.idx {m : ModM} (h : Lp m) {t : Int} (ht : 0 ≤ t) : 0 ≤ idxM m t ∧ idxM m t < m.states.length := by
  have h1 := h.lo
  have h2 := h.hi
  unfold idxM
  split
  · omega
  · have h3 : 0 ≤ (t - m.loop).tmod (m.states.length - m.loop) := Int.tmod_nonneg _ (by omega)
    have h4 : (t - m.loop).tmod (m.states.length - m.loop) < m.states.length - m.loop := Int.tmod_lt_of_pos _ (by omega)
    omega
theorem mod_eq (a b : ModM) : decide (a = b) = (decide (a.atoms = b.atoms) && decide (a.steps = b.steps) && decide (a.loop = b.loop) && decide (a.states = b.states)) := by
  obtain ⟨a1, a2, a3, a4⟩ := a
  obtain ⟨b1, b2, b3, b4⟩ := b
  rw [Bool.eq_iff_iff]
  simp only [Bool.and_eq_true, decide_eq_true_eq, ModM.mk.injEq]
  constructor
  · rintro ⟨h1, h2, h3, h4⟩; exact ⟨⟨⟨h1, h2⟩, h4⟩, h3⟩
  · rintro ⟨⟨⟨h1, h2⟩, h4⟩, h3⟩; exact ⟨h1, h2, h3, h4⟩
end Go.Ab
/- Chapter 07: traces of looped models, in plain terms. -/
namespace Go.Ab
open Go Go.Proofs
def idxN (k l t : Nat) : Nat := if t < k then t else l + (t - l) % (k - l)
theorem idxN_small {k l t : Nat} (h : t < k) : idxN k l t = t := if_pos h
theorem idxN_mod {k l t : Nat} (h : l < k) (ht : l ≤ t) : idxN k l t = l + (t - l) % (k - l) := by
  unfold idxN
  split
  · rw [Nat.mod_eq_of_lt (by omega)]; omega
  · rfl
theorem idxN_per {k l t : Nat} (h : l < k) (ht : l ≤ t) (n : Nat) : idxN k l (t + n * (k - l)) = idxN k l t := by
  rw [idxN_mod h (by omega), idxN_mod h ht]
  congr 1
  rw [show t + n * (k - l) - l = (t - l) + n * (k - l) by omega, Nat.add_mul_mod_self_right]
theorem idxN_per1 {k l t : Nat} (h : l < k) (ht : l ≤ t) : idxN k l (t + (k - l)) = idxN k l t := by
  have := idxN_per h ht 1
  rwa [Nat.one_mul] at this
section
variable {α : Type} {d : α}
def Rep (T : Nat → α) (n l : Nat) : Prop := l < n ∧ ∀ t, T t = T (idxN n l t)
theorem Rep.shift {T : Nat → α} {n l : Nat} (h : Rep T n l) (t : Nat) : T (n + t) = T (l + t) := by
  have h1 := h.1
  rw [h.2 (n + t), h.2 (l + t)]
  have := idxN_per1 (t := l + t) h.1 (by omega)
  rw [← this]; congr 2; omega
theorem Rep.of_shift {T : Nat → α} {n l : Nat} (hl : l < n) (h : ∀ t, T (n + t) = T (l + t)) : Rep T n l := by
  refine ⟨hl, fun t => ?_⟩
  induction t using Nat.strongRecOn with
  | _ t ih =>
    by_cases ht : t < n
    · rw [idxN_small ht]
    · have h1 := h (t - n)
      rw [show n + (t - n) = t by omega] at h1
      rw [h1, ih (l + (t - n)) (by omega)]
      have := idxN_per1 (t := l + (t - n)) hl (by omega)
      rw [← this]; congr 2; omega
theorem Rep.less {T : Nat → α} {n l l' : Nat} (h : Rep T n l) (h' : Rep T n l') (hl : l < l') : Rep T l' l :=
  .of_shift hl fun t => by rw [← h'.shift, h.shift]
def Short (T : Nat → α) (n l : Nat) : Prop := Rep T n l ∧ ∀ n' l', Rep T n' l' → n ≤ n'
end
end Go.Ab
/- Chapter 07: models held against each other, the same trace. -/
namespace Go.Ab
open Go Go.Proofs
set_option maxRecDepth 20000
set_option maxHeartbeats 2000000
attribute [local irreducible] AW AOps thenD inBlockD AR iterEnds roundEndsN inlEnds
theorem mEqual_fn (a b : ModM) : Fn Tryz.prog 16 [mdl a, mdl b] (litB (decide (a = b))) := by
  rw [mod_eq]
  obtain ⟨a1, a2, a3, a4⟩ := a
  obtain ⟨b1, b2, b3, b4⟩ := b
  simp only
  have hs := sEqual_fn a1 b1
  cases h1 : decide (a1 = b1) with
  | false =>
    rw [h1] at hs
    rw [Bool.false_and, Bool.false_and, Bool.false_and]
    refine Fn.enter (n := 35) Tryz.func16 rfl rfl rfl rfl rfl (by decide) fun g hro_ hwt_ => ?_; (try refine nz ?_)
    (refine j205 ?_; (iterate 2 refine j71 ?_); refine AOps.call (hs) (.cons rfl (.pv _) (.cons rfl (.pv _) .nil)) rfl rfl (fun h_ => by cases h_) ?_; refine zm ?_; refine j224 ?_; refine zm ?_; refine j151 ?_; refine AOps.pick_lf rfl rfl rfl rfl rfl rfl ?_; refine zm ?_; refine j151 ?_; refine AOps.pick_lf rfl rfl rfl rfl rfl rfl ?_; refine j62 ?_)
    (apply ends_ret; (exact Res.one (.tmp rfl rfl)); (refine Le.litB ?_; (rfl)))
  | true =>
  rw [h1] at hs
  by_cases h2 : a2 = b2
  · by_cases h4 : a4 = b4
    · rw [decide_eq_true h2, decide_eq_true h4, Bool.true_and, Bool.true_and, Bool.true_and]
      refine Fn.enter (n := 35) Tryz.func16 rfl rfl rfl rfl rfl (by decide) fun g hro_ hwt_ => ?_; (try refine nz ?_)
      refine AW.len_agg 0 2 rfl rfl fun hlen => ?_
      simp only at hlen
      by_cases hab : a3.length = b3.length
      · (refine j205 ?_; (iterate 2 refine j71 ?_); refine AOps.call (hs) (.cons rfl (.pv _) (.cons rfl (.pv _) .nil)) rfl rfl (fun h_ => by cases h_) ?_; refine j138 ?_; refine zt ?_; (iterate 2 refine j235 ?_); (with_reducible apply AOps.inline (hf := Tryz.func53)); (with_reducible assumption); (iterate 10 exact rfl); intro g_ hro_ hwt_; refine nz ?_; refine j119 ?_; refine j92 ?_; refine j114 ?_; refine j321 ?_)
        refine AW.loop (fun (k : Nat) => { n := 32, env := [(1, .pv (stts b3)), (2, .clo (.func 54) [] []), (15, .pv (stts a3)), (16, litI a3.length), (17, litI k), (1028, litB (decide (a4 = b4)))], objs := [], nx := 0 }) (fun k => k ≤ a3.length ∧ a3.take k = b3.take k) (fun k => a3.length - k) 0 ?_ ?_ ?_
        · simp
        · exact weak rfl (by (refine ⟨.eq rfl rfl, ?_⟩; (iterate 5 refine ⟨.eq rfl rfl, ?_⟩); exact trivial)) (by (exact trivial)) rfl
        rintro k ⟨hk, hno⟩
        by_cases hlt : k < a3.length
        · have hlt2 : k < b3.length := by omega
          have he := same_fn a3[k] b3[k]
          by_cases heq : a3[k] = b3[k]
          · rw [decide_eq_true heq] at he
            (refine j264 ?_; (focus ((with_reducible apply AOps.index_map); (iterate 7 exact rfl); rotate_left; omega)); refine zr ?_; refine j157 ?_; refine j2 ?_; (iterate 2 refine zm ?_); (focus ((with_reducible apply AOps.index_map); (iterate 7 exact rfl); rotate_left; omega)); refine zr ?_; refine j230 ?_; (iterate 2 refine zm ?_); refine AOps.callT (hf := he) rfl rfl (.cons rfl (.pv _) (.cons rfl (.pv _) .nil)) rfl rfl (fun h_ => by cases h_) ?_; refine j155 ?_)
            exact ⟨k + 1, ⟨by omega, eq_step hno hlt hlt2 heq⟩, by omega, weak rfl (by (refine ⟨.eq rfl rfl, ?_⟩; (iterate 5 refine ⟨.eq rfl rfl, ?_⟩); exact trivial)) (by (exact trivial)) rfl⟩
          · rw [decide_eq_false heq] at he
            have hne : ¬ a3 = b3 := by rintro rfl; exact heq rfl
            (refine j264 ?_; (focus ((with_reducible apply AOps.index_map); (iterate 7 exact rfl); rotate_left; omega)); refine zr ?_; refine j157 ?_; refine j2 ?_; (iterate 2 refine zm ?_); (focus ((with_reducible apply AOps.index_map); (iterate 7 exact rfl); rotate_left; omega)); refine zr ?_; refine j230 ?_; (iterate 2 refine zm ?_); refine AOps.callT (hf := he) rfl rfl (.cons rfl (.pv _) (.cons rfl (.pv _) .nil)) rfl rfl (fun h_ => by cases h_) ?_; refine j265 ?_; refine inlEnds_rpv rfl rfl ?_; refine nz ?_; refine zT ?_; refine j62 ?_)
            (apply ends_ret; (exact Res.one (.tmp rfl rfl)); (refine Le.litB ?_; (rw [eq_comm, decide_eq_false_iff_not]; exact hne)))
        · have he : a3 = b3 := eq_at_end hab hno hlt
          (refine j32 ?_; refine j11 ?_; refine inlEnds_rpv rfl rfl ?_; refine nz ?_; refine zT ?_; refine j62 ?_)
          (apply ends_ret; (exact Res.one (.tmp rfl rfl)); (refine Le.litB ?_; (rw [eq_comm, decide_eq_true_iff]; exact he)))
      · have hne : ¬ a3 = b3 := by rintro rfl; exact hab rfl
        (refine j205 ?_; (iterate 2 refine j71 ?_); refine AOps.call (hs) (.cons rfl (.pv _) (.cons rfl (.pv _) .nil)) rfl rfl (fun h_ => by cases h_) ?_; refine j138 ?_; refine zt ?_; (iterate 2 refine j235 ?_); (with_reducible apply AOps.inline (hf := Tryz.func53)); (with_reducible assumption); (iterate 10 exact rfl); intro g_ hro_ hwt_; refine nz ?_; refine j119 ?_; refine j195 ?_; refine inlEnds_rpv rfl rfl ?_; refine nz ?_; refine zT ?_; refine j62 ?_)
        (apply ends_ret; (exact Res.one (.tmp rfl rfl)); (refine Le.litB ?_; (rw [eq_comm, decide_eq_false_iff_not]; exact hne)))
    · rw [decide_eq_true h2, decide_eq_false h4, Bool.and_false, Bool.false_and]
      refine Fn.enter (n := 35) Tryz.func16 rfl rfl rfl rfl rfl (by decide) fun g hro_ hwt_ => ?_; (try refine nz ?_)
      (refine j205 ?_; (iterate 2 refine j71 ?_); refine AOps.call (hs) (.cons rfl (.pv _) (.cons rfl (.pv _) .nil)) rfl rfl (fun h_ => by cases h_) ?_; refine j138 ?_; refine j275 ?_; refine j62 ?_)
      (apply ends_ret; (exact Res.one (.tmp rfl rfl)); (refine Le.litB ?_; (rfl)))
  · rw [decide_eq_false h2, Bool.and_false, Bool.false_and, Bool.false_and]
    refine Fn.enter (n := 35) Tryz.func16 rfl rfl rfl rfl rfl (by decide) fun g hro_ hwt_ => ?_; (try refine nz ?_)
    (refine j205 ?_; (iterate 2 refine j71 ?_); refine AOps.call (hs) (.cons rfl (.pv _) (.cons rfl (.pv _) .nil)) rfl rfl (fun h_ => by cases h_) ?_; refine zm ?_; refine j82 ?_; refine j268 ?_; refine zm ?_; refine j275 ?_; refine zm ?_; refine j151 ?_; refine AOps.pick_lf rfl rfl rfl rfl rfl rfl ?_; refine j62 ?_)
    (apply ends_ret; (exact Res.one (.tmp rfl rfl)); (refine Le.litB ?_; (rfl)))
theorem rEq07_fn (a b : ModM) : Fn Tryz.prog 11 [mdl a, mdl b] (litB (decide (a = b))) := by
  rw [mod_eq]
  obtain ⟨a1, a2, a3, a4⟩ := a
  obtain ⟨b1, b2, b3, b4⟩ := b
  simp only
  have hs := ints_fn a1 b1
  cases h1 : decide (a1 = b1) with
  | false =>
    rw [h1] at hs
    rw [Bool.false_and, Bool.false_and, Bool.false_and]
    refine Fn.enter (n := 58) Tryz.func11 rfl rfl rfl rfl rfl (by decide) fun g hro_ hwt_ => ?_; (try refine nz ?_)
    (refine j112 ?_; (iterate 2 refine j71 ?_); refine AOps.call (hs) (.cons rfl (.pv _) (.cons rfl (.pv _) .nil)) rfl rfl (fun h_ => by cases h_) ?_; refine j109 ?_; refine j126 ?_; refine j328 ?_; refine j151 ?_; refine j328 ?_; refine j126 ?_; refine j132 ?_; refine j22 ?_)
    (apply ends_ret; (exact Res.one (.tmp rfl rfl)); (refine Le.litB ?_; (rfl)))
  | true =>
  rw [h1] at hs
  by_cases h2 : a2 = b2
  · by_cases h4 : a4 = b4
    · rw [decide_eq_true h2, decide_eq_true h4, Bool.true_and, Bool.true_and, Bool.true_and]
      refine Fn.enter (n := 58) Tryz.func11 rfl rfl rfl rfl rfl (by decide) fun g hro_ hwt_ => ?_; (try refine nz ?_)
      refine AW.len_agg 0 2 rfl rfl fun hlen => ?_
      simp only at hlen
      by_cases hab : a3.length = b3.length
      · (refine j112 ?_; (iterate 2 refine j71 ?_); refine AOps.call (hs) (.cons rfl (.pv _) (.cons rfl (.pv _) .nil)) rfl rfl (fun h_ => by cases h_) ?_; refine j159 ?_; refine j40 ?_; (iterate 2 refine j165 ?_); refine AOps.neq rfl rfl rfl rfl rfl ?_; refine zF ?_; refine j259 ?_)
        refine AW.loop (fun (k : Nat) => { n := 58, env := [(2, .ptr 0 0), (3, .ptr 1 0), (5, litI k)], objs := [(0, some (.box [.pv (ints a1), litI a2, .pv (stts a3), litI a4])), (1, some (.box [.pv (ints b1), litI b2, .pv (stts b3), litI b4]))], nx := 2 }) (fun k => k ≤ a3.length ∧ a3.take k = b3.take k) (fun k => a3.length - k) 0 ?_ ?_ ?_
        · simp
        · exact weak rfl (by (refine ⟨.eq rfl rfl, ?_⟩; (iterate 2 refine ⟨.eq rfl rfl, ?_⟩); exact trivial)) (by (refine ⟨.box _ rfl ?_, ?_⟩; (iterate 4 refine ⟨.eq rfl rfl, ?_⟩); exact trivial; refine ⟨.box _ rfl ?_, ?_⟩; (iterate 4 refine ⟨.eq rfl rfl, ?_⟩); (iterate 2 exact trivial))) rfl
        rintro k ⟨hk, hno⟩
        by_cases hlt : k < a3.length
        · have hlt2 : k < b3.length := by omega
          have he := rSame_fn a3[k] b3[k]
          by_cases heq : a3[k] = b3[k]
          · rw [decide_eq_true heq] at he
            (refine j135 ?_; refine zo ?_; refine j84 ?_; refine j307 ?_; (focus ((with_reducible apply AOps.index_map); (iterate 7 exact rfl); rotate_left; omega)); refine zr ?_; refine j307 ?_; (focus ((with_reducible apply AOps.index_map); (iterate 7 exact rfl); rotate_left; omega)); refine zr ?_; refine AOps.call (he) (.cons rfl (.pv _) (.cons rfl (.pv _) .nil)) rfl rfl (fun h_ => by cases h_) ?_; refine j55 ?_; refine j91 ?_)
            exact ⟨k + 1, ⟨by omega, eq_step hno hlt hlt2 heq⟩, by omega, weak rfl (by (refine ⟨.eq rfl rfl, ?_⟩; (iterate 2 refine ⟨.eq rfl rfl, ?_⟩); exact trivial)) (by (refine ⟨.box _ rfl ?_, ?_⟩; (iterate 4 refine ⟨.eq rfl rfl, ?_⟩); exact trivial; refine ⟨.box _ rfl ?_, ?_⟩; (iterate 4 refine ⟨.eq rfl rfl, ?_⟩); (iterate 2 exact trivial))) rfl⟩
          · rw [decide_eq_false heq] at he
            have hne : ¬ a3 = b3 := by rintro rfl; exact heq rfl
            (refine j135 ?_; refine zo ?_; refine j84 ?_; refine j307 ?_; (focus ((with_reducible apply AOps.index_map); (iterate 7 exact rfl); rotate_left; omega)); refine zr ?_; refine j307 ?_; (focus ((with_reducible apply AOps.index_map); (iterate 7 exact rfl); rotate_left; omega)); refine zr ?_; refine AOps.call (he) (.cons rfl (.pv _) (.cons rfl (.pv _) .nil)) rfl rfl (fun h_ => by cases h_) ?_; refine j265 ?_)
            (apply ends_ret; (exact Res.one (.tmp rfl rfl)); (refine Le.litB ?_; (rw [eq_comm, decide_eq_false_iff_not]; exact hne)))
        · have he : a3 = b3 := eq_at_end hab hno hlt
          (refine j54 ?_; refine j34 ?_; refine j255 ?_)
          (apply ends_ret; (exact Res.one (.tmp rfl rfl)); (refine Le.litB ?_; (rw [eq_comm, decide_eq_true_iff]; exact he)))
      · have hne : ¬ a3 = b3 := by rintro rfl; exact hab rfl
        (refine j112 ?_; (iterate 2 refine j71 ?_); refine AOps.call (hs) (.cons rfl (.pv _) (.cons rfl (.pv _) .nil)) rfl rfl (fun h_ => by cases h_) ?_; refine j159 ?_; refine j40 ?_; (iterate 2 refine j165 ?_); refine AOps.neq rfl rfl rfl rfl rfl ?_; refine zF ?_; refine j195 ?_)
        (apply ends_ret; (exact Res.one (.tmp rfl rfl)); (refine Le.litB ?_; (rw [eq_comm, decide_eq_false_iff_not]; exact hne)))
    · rw [decide_eq_true h2, decide_eq_false h4, Bool.and_false, Bool.false_and]
      refine Fn.enter (n := 58) Tryz.func11 rfl rfl rfl rfl rfl (by decide) fun g hro_ hwt_ => ?_; (try refine nz ?_)
      (refine j112 ?_; (iterate 2 refine j71 ?_); refine AOps.call (hs) (.cons rfl (.pv _) (.cons rfl (.pv _) .nil)) rfl rfl (fun h_ => by cases h_) ?_; refine j159 ?_; refine zm ?_; (iterate 7 refine AOps.guardFn rfl rfl rfl rfl rfl rfl (by with_reducible assumption) ?_); refine zT ?_; refine j181 ?_)
      all_goals (apply ends_ret; (exact Res.one (.tmp rfl rfl)); (refine Le.litB ?_; (rfl)))
  · rw [decide_eq_false h2, Bool.and_false, Bool.false_and, Bool.false_and]
    refine Fn.enter (n := 58) Tryz.func11 rfl rfl rfl rfl rfl (by decide) fun g hro_ hwt_ => ?_; (try refine nz ?_)
    (refine j112 ?_; (iterate 2 refine j71 ?_); refine AOps.call (hs) (.cons rfl (.pv _) (.cons rfl (.pv _) .nil)) rfl rfl (fun h_ => by cases h_) ?_; refine j109 ?_; refine j82 ?_; refine AOps.neq rfl rfl rfl rfl rfl ?_; refine AOps.pick_lf rfl rfl rfl rfl rfl rfl ?_; refine zm ?_; refine j183 ?_; refine zm ?_; refine j126 ?_; refine j132 ?_; refine j22 ?_)
    all_goals (apply ends_ret; (exact Res.one (.tmp rfl rfl)); (refine Le.litB ?_; (rfl)))
end Go.Ab
/- Chapter 34: names, and what the laws ask of their inputs, walked. -/
namespace Go.Ab
open Go Go.Proofs
open Nat (reduceAdd reduceSub)
set_option maxRecDepth 20000
set_option maxHeartbeats 4000000
def kwL : List Bt := [[115, 111, 114, 116], [111, 114, 100, 101, 114, 101, 100], [118, 97, 114], [102, 105, 101, 108, 100], [112, 114, 101, 100], [102, 97, 99, 116], [97, 108, 108], [115, 111, 109, 101], [110, 111], [111, 110, 101], [108, 111, 110, 101], [97, 108, 119, 97, 121, 115], [101, 118, 101, 110, 116, 117, 97, 108, 108, 121], [97, 102, 116, 101, 114], [117, 110, 116, 105, 108], [110, 111, 110, 101], [117, 110, 105, 118], [105, 100, 101, 110], [105, 110], [110, 111, 116], [116, 114, 117, 101], [102, 97, 108, 115, 101]]
theorem kw_lits : kwL.map (fun k => [PV.lit (.string (mkS k))]) = List.map (fun p => [p]) [PV.lit (Value.string ⟨#[115, 111, 114, 116]⟩), PV.lit (Value.string ⟨#[111, 114, 100, 101, 114, 101, 100]⟩), PV.lit (Value.string ⟨#[118, 97, 114]⟩), PV.lit (Value.string ⟨#[102, 105, 101, 108, 100]⟩), PV.lit (Value.string ⟨#[112, 114, 101, 100]⟩), PV.lit (Value.string ⟨#[102, 97, 99, 116]⟩), PV.lit (Value.string ⟨#[97, 108, 108]⟩), PV.lit (Value.string ⟨#[115, 111, 109, 101]⟩), PV.lit (Value.string ⟨#[110, 111]⟩), PV.lit (Value.string ⟨#[111, 110, 101]⟩), PV.lit (Value.string ⟨#[108, 111, 110, 101]⟩), PV.lit (Value.string ⟨#[97, 108, 119, 97, 121, 115]⟩), PV.lit (Value.string ⟨#[101, 118, 101, 110, 116, 117, 97, 108, 108, 121]⟩), PV.lit (Value.string ⟨#[97, 102, 116, 101, 114]⟩), PV.lit (Value.string ⟨#[117, 110, 116, 105, 108]⟩), PV.lit (Value.string ⟨#[110, 111, 110, 101]⟩), PV.lit (Value.string ⟨#[117, 110, 105, 118]⟩), PV.lit (Value.string ⟨#[105, 100, 101, 110]⟩), PV.lit (Value.string ⟨#[105, 110]⟩), PV.lit (Value.string ⟨#[110, 111, 116]⟩), PV.lit (Value.string ⟨#[116, 114, 117, 101]⟩), PV.lit (Value.string ⟨#[102, 97, 108, 115, 101]⟩)] := rfl
def kwB (s : Bt) : Bool := decide (s ∈ kwL)
def letC (c : Int) : Bool := decide ((97 ≤ c ∧ c ≤ 122) ∨ (65 ≤ c ∧ c ≤ 90))
def okC (s : Bt) (k : Nat) : Bool := letC (byteAt (mkS s) k) || decide (k ≠ 0 ∧ (byteAt (mkS s) k = 95 ∨ (48 ≤ byteAt (mkS s) k ∧ byteAt (mkS s) k ≤ 57)))
def nameB (s : Bt) : Bool := decide (s.length ≠ 0 ∧ s.length ≤ 16) && (!kwB s && (List.range s.length).all (okC s))
attribute [local irreducible] AW AOps thenD inBlockD AR iterEnds roundEndsN inlEnds noGotoD EndsX EndsP mkS byteAt
theorem kw_fn (s : Bt) : Fn Tryz.prog 88 [litS (mkS s)] (litB (kwB s)) := by
  have hlen : kwL.length = 22 := rfl
  obtain ⟨L, hL⟩ : ∃ L, L = kwL := ⟨_, rfl⟩
  unfold kwB
  rw [← hL] at hlen ⊢
  refine Fn.enter (n := 18) Tryz.func88 rfl rfl rfl rfl rfl (by decide) fun g hro_ hwt_ => ?_; (try refine nz ?_)
  (refine j182 ?_; (focus ((with_reducible apply AOps.bsS); (iterate 5 exact rfl); (focus ((repeat ((any_goals (apply PvS.cons)); (all_goals (try exact rfl)))); (any_goals (exact PvS.nil)); done)); exact rfl; exact rfl; (try refine nz ?_))); refine AOps.assign_own rfl rfl rfl ?_; refine zd ?_; refine j114 ?_; refine j108 ?_)
  (refine nz ?_; apply AW.loopR [] [] (fun k : Nat => ([(0, litS (mkS s)), (4, litI k), (3, .own 0 9 1 (L.map fun k => [.lit (.string (mkS k))]))] : List (Nat × AV))) (fun k : Nat => ([(0, some .row)] : List (Nat × Option Ob))) (fun k : Nat => k ≤ 22 ∧ ∀ j (h : j < L.length), j < k → L[j] ≠ s) (fun k : Nat => 22 - k) (0); (conv => lhs; simp only [Nf.lpR, Nf.all, Nat.reduceBEq, reduceAdd, reduceSub]); (all_goals skip))
  · exact ⟨by omega, fun j h hj => by omega⟩
  · exact weak rfl (by (refine ⟨.strE (by first | with_reducible rfl | (rw [hL, kw_lits])), ?_⟩; refine ⟨.eq rfl rfl, ?_⟩; refine ⟨.ownE (by first | with_reducible rfl | (rw [hL, kw_lits])) rfl, ?_⟩; exact trivial)) (by (refine ⟨.row rfl, ?_⟩; exact trivial)) rfl
  rintro k ⟨hk, hne⟩
  by_cases hlt : k < L.length
  · by_cases hq : L[k] = s
    · have hq' : mkS L[k] = mkS s := by rw [hq]
      rw [decide_eq_true (by rw [← hq]; exact List.getElem_mem hlt)]
      (refine j295 ?_; refine j9 ?_; refine j2 ?_; refine AOps.move_own rfl rfl rfl ?_; refine zm ?_; refine AOps.index_own_mapN rfl rfl rfl rfl rfl rfl rfl (by omega) ?_; (focus ((with_reducible apply AOps.load_o1_mapI); (iterate 4 exact rfl); exact (fun h_ => by cases h_); rotate_left; (first | omega | exact Nat.zero_lt_one | exact (by simp)))); refine zm ?_; refine AOps.eqlS rfl rfl rfl rfl rfl ?_; refine j218 ?_)
      (apply ends_ret; (exact Res.one (.tmp rfl rfl)); (refine Le.litB ?_; (rfl)))
    · have hq' : mkS L[k] ≠ mkS s := fun h => hq (mk_inj.1 h)
      (refine j295 ?_; refine j9 ?_; refine j2 ?_; refine AOps.move_own rfl rfl rfl ?_; refine zm ?_; refine AOps.index_own_mapN rfl rfl rfl rfl rfl rfl rfl (by omega) ?_; (focus ((with_reducible apply AOps.load_o1_mapI); (iterate 4 exact rfl); exact (fun h_ => by cases h_); rotate_left; (first | omega | exact Nat.zero_lt_one | exact (by simp)))); refine zm ?_; refine AOps.eqlS rfl rfl rfl rfl rfl ?_; refine j283 ?_)
      exact ⟨k + 1, ⟨by omega, fun j h hj => by
        by_cases e : j = k
        · subst e; exact hq
        · exact hne j h (by omega)⟩, by omega, weak rfl (by (refine ⟨.strE (by first | with_reducible rfl | (rfl)), ?_⟩; refine ⟨.intE (by first | with_reducible rfl | (rfl)), ?_⟩; refine ⟨.ownE (by first | with_reducible rfl | (rfl)) rfl, ?_⟩; exact trivial)) (by (refine ⟨.row rfl, ?_⟩; exact trivial)) rfl⟩
  · rw [decide_eq_false (by
      intro h
      obtain ⟨j, hj, e⟩ := List.getElem_of_mem h
      exact hne j hj (by omega) e)]
    (refine j295 ?_; refine j139 ?_; refine j11 ?_)
    (apply ends_ret; (exact Res.one (.tmp rfl rfl)); (refine Le.litB ?_; (rfl)))
theorem okC_yes {s : Bt} {k : Nat} (h : (97 ≤ byteAt (mkS s) k ∧ byteAt (mkS s) k ≤ 122) ∨ (65 ≤ byteAt (mkS s) k ∧ byteAt (mkS s) k ≤ 90) ∨ (k ≠ 0 ∧ (byteAt (mkS s) k = 95 ∨ (48 ≤ byteAt (mkS s) k ∧ byteAt (mkS s) k ≤ 57)))) : okC s k = true := by
  unfold okC letC
  rw [Bool.or_eq_true, decide_eq_true_eq, decide_eq_true_eq]
  rcases h with h | h | h
  · exact .inl (.inl h)
  · exact .inl (.inr h)
  · exact .inr h
theorem okC_no {s : Bt} {k : Nat} (h : ¬ ((97 ≤ byteAt (mkS s) k ∧ byteAt (mkS s) k ≤ 122) ∨ (65 ≤ byteAt (mkS s) k ∧ byteAt (mkS s) k ≤ 90) ∨ (k ≠ 0 ∧ (byteAt (mkS s) k = 95 ∨ (48 ≤ byteAt (mkS s) k ∧ byteAt (mkS s) k ≤ 57))))) : okC s k = false := by
  unfold okC letC
  rw [Bool.or_eq_false_iff, decide_eq_false_iff_not, decide_eq_false_iff_not]
  exact ⟨fun h' => h (h'.elim .inl fun h' => .inr (.inl h')), fun h' => h (.inr (.inr h'))⟩
theorem name2_fn (s : Bt) : Fn Tryz.prog 63 [litS (mkS s)] (litB (nameB s)) := by
  have kz := mk_size s
  have kw := kw_fn s
  unfold nameB
  by_cases h0 : s.length = 0
  · rw [decide_eq_false (by omega), Bool.false_and]
    refine Fn.enter (n := 59) Tryz.func63 rfl rfl rfl rfl rfl (by decide) fun g hro_ hwt_ => ?_; (try refine nz ?_)
    (refine zq ?_; refine j27 ?_; refine j318 ?_; refine AOps.eql rfl rfl rfl rfl rfl ?_; refine zm ?_; (iterate 3 refine AOps.guardFn rfl rfl rfl rfl rfl rfl (by first | omega | decide) ?_); refine j320 ?_; (iterate 2 refine AOps.guard_lf rfl rfl rfl rfl rfl rfl rfl ?_); refine j132 ?_; refine j22 ?_)
    (apply ends_ret; (exact Res.one (.tmp rfl rfl)); (refine Le.litB ?_; (rfl)))
  by_cases h1 : 16 < s.length
  · rw [decide_eq_false (by omega), Bool.false_and]
    refine Fn.enter (n := 59) Tryz.func63 rfl rfl rfl rfl rfl (by decide) fun g hro_ hwt_ => ?_; (try refine nz ?_)
    (refine zq ?_; refine j27 ?_; refine zm ?_; refine j190 ?_; refine zm ?_; (iterate 2 refine AOps.guardFn rfl rfl rfl rfl rfl rfl (by first | omega | decide) ?_); refine zT ?_; refine j181 ?_)
    (apply ends_ret; (exact Res.one (.tmp rfl rfl)); (refine Le.litB ?_; (rfl)))
  rw [decide_eq_true (by omega), Bool.true_and]
  cases hkw : kwB s with
  | true =>
    rw [hkw] at kw
    rw [Bool.not_true, Bool.false_and]
    refine Fn.enter (n := 59) Tryz.func63 rfl rfl rfl rfl rfl (by decide) fun g hro_ hwt_ => ?_; (try refine nz ?_)
    (refine zq ?_; refine j27 ?_; refine zm ?_; refine j190 ?_; refine j221 ?_; refine zA (kw) ?_; refine zF ?_; refine j181 ?_)
    (apply ends_ret; (exact Res.one (.tmp rfl rfl)); (refine Le.litB ?_; (rfl)))
  | false =>
    rw [hkw] at kw
    rw [Bool.not_false, Bool.true_and]
    obtain ⟨b, hb⟩ : ∃ b, b = (List.range s.length).all (okC s) := ⟨_, rfl⟩
    rw [← hb]
    refine Fn.enter (n := 59) Tryz.func63 rfl rfl rfl rfl rfl (by decide) fun g hro_ hwt_ => ?_; (try refine nz ?_)
    (refine zq ?_; refine j27 ?_; refine zm ?_; refine j190 ?_; refine j221 ?_; refine zA (kw) ?_; refine zF ?_; refine j121 ?_; refine j29 ?_; refine j114 ?_; refine j108 ?_)
    (refine nz ?_; apply AW.loopR [11, 9, 8, 6, 0] [] (fun k : Nat => ([(3, litI k)] : List (Nat × AV))) (fun k : Nat => ([] : List (Nat × Option Ob))) (fun k : Nat => k ≤ s.length ∧ ∀ j, j < k → okC s j = true) (fun k : Nat => s.length - k) (0); (conv => lhs; simp only [Nf.lpR, Nf.all, Nat.reduceBEq, reduceAdd, reduceSub]); (all_goals skip))
    · exact ⟨by omega, fun j hj => by omega⟩
    · exact weak rfl (by (refine ⟨.intE (by first | with_reducible rfl | (rfl)), ?_⟩; refine ⟨.intE (by first | with_reducible rfl | (rfl)), ?_⟩; (iterate 2 refine ⟨.boolE (by first | with_reducible rfl | (rfl)), ?_⟩); (iterate 2 refine ⟨.strE (by first | with_reducible rfl | (rfl)), ?_⟩); exact trivial)) (by (exact trivial)) rfl
    rintro k ⟨hk, hok⟩
    by_cases hlt : k < s.length
    · by_cases c1 : 97 ≤ byteAt (mkS s) k
      · by_cases c2 : byteAt (mkS s) k ≤ 122
        · have hk1 : okC s k = true := okC_yes (by omega)
          (refine j156 ?_; refine zm ?_; refine j107 ?_; (iterate 2 refine AOps.guard_u rfl rfl rfl rfl rfl rfl ?_); refine j131 ?_; refine zT ?_; refine j323 ?_; refine j109 ?_; (iterate 3 refine AOps.guard_lf rfl rfl rfl rfl rfl rfl rfl ?_); (iterate 10 refine AOps.guard_u rfl rfl rfl rfl rfl rfl ?_); refine AOps.guard_lf rfl rfl rfl rfl rfl rfl rfl ?_; refine AOps.pick_lf rfl rfl rfl rfl rfl rfl ?_; refine j121 ?_; refine j91 ?_)
          exact ⟨k + 1, ⟨by omega, fun j hj => by
            by_cases e : j = k
            · subst e; exact hk1
            · exact hok j (by omega)⟩, by omega, weak rfl (by (refine ⟨.intE (by first | with_reducible rfl | (rfl)), ?_⟩; refine ⟨.intE (by first | with_reducible rfl | (rfl)), ?_⟩; (iterate 2 refine ⟨.boolE (by first | with_reducible rfl | (rfl)), ?_⟩); (iterate 2 refine ⟨.strE (by first | with_reducible rfl | (rfl)), ?_⟩); exact trivial)) (by (exact trivial)) rfl⟩
        · have c3 : 65 ≤ byteAt (mkS s) k := by omega
          have c4 : ¬ byteAt (mkS s) k ≤ 90 := by omega
          by_cases c5 : (k : Int) = 0
          · have hb' : b = false := by rw [hb, List.all_eq_false]; exact j188
            subst hb'
            (refine j278 ?_; refine zm ?_; refine AOps.notD rfl rfl rfl ?_; refine j244 ?_; refine zm ?_; refine j299 ?_; refine zt ?_; (iterate 2 refine zT ?_); refine zd ?_; refine j96 ?_)
            (apply ends_ret; (exact Res.one (.tmp rfl rfl)); (refine Le.litB ?_; (rfl)))
          have c6 : ¬ byteAt (mkS s) k = 95 := by omega
          have c7 : ¬ byteAt (mkS s) k < 48 := by omega
          have c8 : 57 < byteAt (mkS s) k := by omega
          have hb' : b = false := by rw [hb, List.all_eq_false]; exact j188
          subst hb'
          (refine j278 ?_; refine zm ?_; refine AOps.notD rfl rfl rfl ?_; refine j244 ?_; refine j111 ?_; refine zt ?_; refine zF ?_; refine zT ?_; refine j218 ?_)
          (apply ends_ret; (exact Res.one (.tmp rfl rfl)); (refine Le.litB ?_; (rfl)))
      · by_cases c3 : 65 ≤ byteAt (mkS s) k
        · by_cases c4 : byteAt (mkS s) k ≤ 90
          · have hk1 : okC s k = true := okC_yes (by omega)
            (refine j168 ?_; refine zm ?_; (iterate 3 refine AOps.guardTn rfl rfl rfl rfl rfl rfl (by first | omega | decide) ?_); (iterate 10 refine AOps.guard_u rfl rfl rfl rfl rfl rfl ?_); refine AOps.guardTn rfl rfl rfl rfl rfl rfl (by first | omega | decide) ?_; refine zF ?_; refine j121 ?_; refine j91 ?_)
            exact ⟨k + 1, ⟨by omega, fun j hj => by
              by_cases e : j = k
              · subst e; exact hk1
              · exact hok j (by omega)⟩, by omega, weak rfl (by (refine ⟨.intE (by first | with_reducible rfl | (rfl)), ?_⟩; refine ⟨.intE (by first | with_reducible rfl | (rfl)), ?_⟩; (iterate 2 refine ⟨.boolE (by first | with_reducible rfl | (rfl)), ?_⟩); (iterate 2 refine ⟨.strE (by first | with_reducible rfl | (rfl)), ?_⟩); exact trivial)) (by (exact trivial)) rfl⟩
          by_cases c5 : (k : Int) = 0
          · have hb' : b = false := by rw [hb, List.all_eq_false]; exact j188
            subst hb'
            (refine j168 ?_; refine j244 ?_; refine zm ?_; refine j299 ?_; refine zt ?_; (iterate 2 refine zT ?_); refine zd ?_; refine j96 ?_)
            (apply ends_ret; (exact Res.one (.tmp rfl rfl)); (refine Le.litB ?_; (rfl)))
          by_cases c6 : byteAt (mkS s) k = 95
          · have c6' : ¬ ¬ byteAt (mkS s) k = 95 := fun h => h c6
            have hk1 : okC s k = true := okC_yes (by omega)
            (refine j168 ?_; refine j244 ?_; refine j221 ?_; refine AOps.neqU rfl rfl rfl rfl rfl ?_; refine zy ?_; refine zm ?_; (iterate 3 refine AOps.guardTn rfl rfl rfl rfl rfl rfl (by with_reducible assumption) ?_); (iterate 2 refine AOps.guard_u rfl rfl rfl rfl rfl rfl ?_); refine AOps.guardTn rfl rfl rfl rfl rfl rfl (by with_reducible assumption) ?_; refine zy ?_; refine zF ?_; refine zt ?_; refine zF ?_; refine zT ?_; refine j121 ?_; refine j91 ?_)
            exact ⟨k + 1, ⟨by omega, fun j hj => by
              by_cases e : j = k
              · subst e; exact hk1
              · exact hok j (by omega)⟩, by omega, weak rfl (by (refine ⟨.intE (by first | with_reducible rfl | (rfl)), ?_⟩; refine ⟨.intE (by first | with_reducible rfl | (rfl)), ?_⟩; (iterate 2 refine ⟨.boolE (by first | with_reducible rfl | (rfl)), ?_⟩); (iterate 2 refine ⟨.strE (by first | with_reducible rfl | (rfl)), ?_⟩); exact trivial)) (by (exact trivial)) rfl⟩
          have c7 : ¬ byteAt (mkS s) k < 48 := by omega
          have c8 : 57 < byteAt (mkS s) k := by omega
          have hb' : b = false := by rw [hb, List.all_eq_false]; exact j188
          subst hb'
          (refine j168 ?_; refine j244 ?_; refine j111 ?_; refine zt ?_; refine zF ?_; refine zT ?_; refine j218 ?_)
          (apply ends_ret; (exact Res.one (.tmp rfl rfl)); (refine Le.litB ?_; (rfl)))
        · by_cases c5 : (k : Int) = 0
          · have hb' : b = false := by rw [hb, List.all_eq_false]; exact j188
            subst hb'
            (refine j127 ?_; refine zm ?_; refine j299 ?_; refine zl ?_; refine zT ?_; refine j132 ?_; refine j96 ?_)
            (apply ends_ret; (exact Res.one (.tmp rfl rfl)); (refine Le.litB ?_; (rfl)))
          have c6 : ¬ byteAt (mkS s) k = 95 := by omega
          by_cases c7 : byteAt (mkS s) k < 48
          · have hb' : b = false := by rw [hb, List.all_eq_false]; exact j188
            subst hb'
            (refine j127 ?_; refine j221 ?_; refine AOps.neqU rfl rfl rfl rfl rfl ?_; refine zy ?_; refine j101 ?_; refine AOps.lssU rfl rfl rfl rfl rfl ?_; refine zt ?_; refine zm ?_; refine j90 ?_; refine zt ?_; refine zT ?_; refine zy ?_; refine zT ?_; refine zl ?_; refine zF ?_; refine j132 ?_; refine j96 ?_)
            (apply ends_ret; (exact Res.one (.tmp rfl rfl)); (refine Le.litB ?_; (rfl)))
          by_cases c8 : 57 < byteAt (mkS s) k
          · have hb' : b = false := by rw [hb, List.all_eq_false]; exact j188
            subst hb'
            (refine j127 ?_; refine j111 ?_; refine zl ?_; refine zF ?_; refine j132 ?_; refine zc ?_; refine j11 ?_; refine j7 ?_)
            (apply ends_ret; (exact Res.one (.tmp rfl rfl)); (refine Le.litB ?_; (rfl)))
          have hk1 : okC s k = true := okC_yes (by omega)
          (refine j127 ?_; refine j111 ?_; refine zl ?_; refine zF ?_; refine j132 ?_; refine zk ?_; refine j91 ?_)
          exact ⟨k + 1, ⟨by omega, fun j hj => by
            by_cases e : j = k
            · subst e; exact hk1
            · exact hok j (by omega)⟩, by omega, weak rfl (by (refine ⟨.intE (by first | with_reducible rfl | (rfl)), ?_⟩; refine ⟨.intE (by first | with_reducible rfl | (rfl)), ?_⟩; (iterate 2 refine ⟨.boolE (by first | with_reducible rfl | (rfl)), ?_⟩); (iterate 2 refine ⟨.strE (by first | with_reducible rfl | (rfl)), ?_⟩); exact trivial)) (by (exact trivial)) rfl⟩
    · have hb' : b = true := by rw [hb, List.all_eq_true]; exact fun j hj => hok j (by have := List.mem_range.1 hj; omega)
      subst hb'
      (refine j199 ?_; refine AOps.len_str rfl rfl rfl rfl ?_; refine j139 ?_; refine j11 ?_)
      (apply ends_ret; (exact Res.one (.tmp rfl rfl)); (refine Le.litB ?_; (rfl)))
end Go.Ab
/- Chapter 34: what the laws ask of their inputs, walked. -/
namespace Go.Ab
open Go Go.Proofs
open Nat (reduceAdd reduceSub)
set_option maxRecDepth 20000
set_option maxHeartbeats 4000000
def nmS (l : List SortM) : Bool := l.all fun q => nameB (sL q.1)
def nmF (l : List FieldM) : Bool := l.all fun f => nameB (sL f.name)
theorem nmS_drop {l : List SortM} {k : Nat} (hk : k < l.length) : nmS (l.drop k) = (nameB (sL l[k].1) && nmS (l.drop (k + 1))) := by
  rw [List.drop_eq_getElem_cons hk]; rfl
theorem nmF_drop {l : List FieldM} {k : Nat} (hk : k < l.length) : nmF (l.drop k) = (nameB (sL l[k].name) && nmF (l.drop (k + 1))) := by
  rw [List.drop_eq_getElem_cons hk]; rfl
attribute [local irreducible] AW AOps thenD inBlockD AR iterEnds roundEndsN inlEnds noGotoD EndsX EndsP mkS byteAt
theorem named_fn (s : SpecM) (h1 : s.sorts.length ≤ 1000) (h2 : s.fields.length ≤ 1000) : Fn Tryz.prog 22 [spc s] (litB (nmS s.sorts && nmF s.fields)) := by
  obtain ⟨so, fs, p, q⟩ := s
  simp only at h1 h2 ⊢
  have hn := fun (b : ByteArray) => name2_fn (sL b)
  simp only [mk_sL] at hn
  refine Fn.enter (n := 35) Tryz.func22 rfl rfl rfl rfl rfl (by decide) fun g hro_ hwt_ => ?_; (try refine nz ?_)
  (refine j241 ?_; refine j108 ?_)
  (refine nz ?_; apply AW.loopR [1] [0] (fun k : Nat => ([(3, litI k)] : List (Nat × AV))) (fun k : Nat => ([] : List (Nat × Option Ob))) (fun k : Nat => k ≤ so.length ∧ nmS so = nmS (so.drop k)) (fun k : Nat => so.length - k) (0); (conv => lhs; simp only [Nf.lpR, Nf.all, Nat.reduceBEq, reduceAdd, reduceSub]); (all_goals skip))
  · exact ⟨by omega, rfl⟩
  · exact j201
  rintro k ⟨hk, he⟩
  by_cases hlt : k < so.length
  · rw [nmS_drop hlt] at he
    have hc := hn so[k].1
    cases hb : nameB (sL so[k].1) with
    | false =>
      rw [hb] at hc
      rw [hb, Bool.false_and] at he
      rw [he, Bool.false_and]
      (refine j54 ?_; refine j60 ?_; refine zn ?_; refine j9 ?_; refine j2 ?_; refine j60 ?_; refine zm ?_; (focus ((with_reducible apply AOps.index_map); (iterate 7 exact rfl); rotate_left; omega)); refine j254 ?_; refine zA (hc) ?_; refine j265 ?_)
      (apply ends_ret; (exact Res.one (.tmp rfl rfl)); (refine Le.litB ?_; (rfl)))
    | true =>
      rw [hb] at hc
      rw [hb, Bool.true_and] at he
      (refine j54 ?_; refine j60 ?_; refine zn ?_; refine j9 ?_; refine j2 ?_; refine j60 ?_; refine zm ?_; (focus ((with_reducible apply AOps.index_map); (iterate 7 exact rfl); rotate_left; omega)); refine j254 ?_; refine zA (hc) ?_; refine j55 ?_; refine j91 ?_)
      exact j167
  · obtain rfl : k = so.length := by omega
    have he : nmS so = true := by rw [he, List.drop_length]; rfl
    rw [he, Bool.true_and]
    (refine j54 ?_; refine j60 ?_; refine zn ?_; refine j139 ?_; refine j114 ?_; refine j108 ?_)
    (refine nz ?_; apply AW.loopR [1] [0] (fun k : Nat => ([(4, litI k)] : List (Nat × AV))) (fun k : Nat => ([] : List (Nat × Option Ob))) (fun k : Nat => k ≤ fs.length ∧ nmF fs = nmF (fs.drop k)) (fun k : Nat => fs.length - k) (0); (conv => lhs; simp only [Nf.lpR, Nf.all, Nat.reduceBEq, reduceAdd, reduceSub]); (all_goals skip))
    · exact ⟨by omega, rfl⟩
    · exact j201
    rintro k ⟨hk, he⟩
    by_cases hlt : k < fs.length
    · rw [nmF_drop hlt] at he
      have hc := hn fs[k].name
      cases hb : nameB (sL fs[k].name) with
      | false =>
        rw [hb] at hc
        rw [hb, Bool.false_and] at he
        rw [he]
        (refine j142 ?_; refine j311 ?_; (focus ((with_reducible apply AOps.index_map); (iterate 7 exact rfl); rotate_left; omega)); refine AOps.fieldAddr_rN 52 0 0 1 rfl rfl rfl rfl ?_; refine nz ?_; refine zr ?_; refine zA (hc) ?_; refine j265 ?_)
        (apply ends_ret; (exact Res.one (.tmp rfl rfl)); (refine Le.litB ?_; (rfl)))
      | true =>
        rw [hb] at hc
        rw [hb, Bool.true_and] at he
        (refine j142 ?_; refine j311 ?_; (focus ((with_reducible apply AOps.index_map); (iterate 7 exact rfl); rotate_left; omega)); refine AOps.fieldAddr_rN 52 0 0 1 rfl rfl rfl rfl ?_; refine nz ?_; refine zr ?_; refine zA (hc) ?_; refine j55 ?_; refine j91 ?_)
        exact j167
    · obtain rfl : k = fs.length := by omega
      have he : nmF fs = true := by rw [he, List.drop_length]; rfl
      rw [he]
      (refine j54 ?_; refine j51 ?_; refine j139 ?_; refine j11 ?_)
      (apply ends_ret; (exact Res.one (.tmp rfl rfl)); (refine Le.litB ?_; (rfl)))
def fewB (s : SpecM) (m : ModM) : Bool := smallB s m && (nmS s.sorts && nmF s.fields)
theorem small_spec {s : SpecM} {m : ModM} (h : smallB s m = true) : (s.sorts.length ≤ 10 ∧ s.fields.length ≤ 10 ∧ m.states.length ≤ 64 ∧ m.atoms.length ≤ 10) ∧ ∀ f ∈ s.fields, f.sorts.length ≤ 10 := by
  unfold smallB at h
  rw [Bool.and_eq_true, Bool.and_eq_true, decide_eq_true_eq] at h
  refine ⟨h.1, fun f hf => ?_⟩
  have := h.2.2
  unfold smF at this
  rw [List.all_eq_true] at this
  simpa using this f hf
theorem few_fn (s : SpecM) (m : ModM) : Fn Tryz.prog 8 [spc s, mdl m] (litB (fewB s m)) := by
  have h1 := small_fn s m
  unfold fewB
  cases e : smallB s m with
  | false =>
    rw [e] at h1
    rw [Bool.false_and]
    obtain ⟨so, fs, p, q⟩ := s
    obtain ⟨at', st, ss, lp⟩ := m
    refine Fn.enter (n := 12) Tryz.func8 rfl rfl rfl rfl rfl (by decide) fun g hro_ hwt_ => ?_; (try refine nz ?_)
    (refine j205 ?_; refine j130 ?_; refine zA (h1) ?_; refine zm ?_; (iterate 2 refine AOps.guard_lf rfl rfl rfl rfl rfl rfl rfl ?_); refine AOps.pick_lf rfl rfl rfl rfl rfl rfl ?_; refine j62 ?_)
    (apply ends_ret; (exact Res.one (.tmp rfl rfl)); (refine Le.litB ?_; (rfl)))
  | true =>
    rw [e] at h1
    rw [Bool.true_and]
    have hsp := small_spec e
    have h2 := named_fn s (by omega) (by omega)
    obtain ⟨so, fs, p, q⟩ := s
    obtain ⟨at', st, ss, lp⟩ := m
    refine Fn.enter (n := 12) Tryz.func8 rfl rfl rfl rfl rfl (by decide) fun g hro_ hwt_ => ?_; (try refine nz ?_)
    (refine j205 ?_; refine j130 ?_; refine zA (h1) ?_; refine zm ?_; refine j45 ?_; refine zA (h2) ?_; refine AOps.pick_lt rfl rfl rfl rfl rfl rfl ?_; refine j62 ?_)
    (apply ends_ret; (exact Res.one (.tmp rfl rfl)); (refine Le.litB ?_; (rfl)))
theorem name_spec {s : Bt} (h : nameB s = true) : s.length ≤ 16 ∧ ∃ c r, s = c :: r ∧ c ≠ 125 := by
  unfold nameB at h
  rw [Bool.and_eq_true, Bool.and_eq_true, decide_eq_true_eq] at h
  obtain ⟨h1, h2, h3⟩ := h
  refine ⟨h1.2, ?_⟩
  cases s with
  | nil => simp at h1
  | cons c r =>
    refine ⟨c, r, rfl, fun e => ?_⟩
    have h4 := List.all_eq_true.1 h3 0 (List.mem_range.2 (by simp))
    subst e
    have h5 : byteAt (mkS (125 :: r)) 0 = 125 := by unfold byteAt mkS; rfl
    rw [okC_no (by rw [h5]; omega)] at h4
    cases h4
theorem few_spec {s : SpecM} {m : ModM} (h : fewB s m = true) : SpP s ∧ smallB s m = true := by
  unfold fewB at h
  rw [Bool.and_eq_true, Bool.and_eq_true] at h
  obtain ⟨h1, h2, h3⟩ := h
  have hs := small_spec h1
  unfold nmS at h2
  unfold nmF at h3
  rw [List.all_eq_true] at h2 h3
  exact ⟨⟨hs.1.1, fun q hq => name_spec (h2 q hq), hs.1.2.1, fun f hf => ⟨(name_spec (h3 f hf)).1, hs.2 f hf⟩⟩, h1⟩
theorem parse_fmt {s : SpecM} {m : ModM} (hp : SpP s) (hv : validB (fullR m.atoms) s m = true) : parseF s (fmtT s m) = (m, 0) := by
  have h := modelP_app (tab_ok hp hv) []
  rw [List.append_nil] at h
  unfold parseF
  rw [h]
  simp [hv]
theorem parse_ok {s : SpecM} {t : Bt} {e : Int} {m : ModM} (h : parseF s t = (m, e)) (he : e ≠ 340) : e = 0 ∧ validB (fullR m.atoms) s m = true ∧ fmtT s m = t := by
  unfold parseF at h
  split at h
  · cases h; exact absurd rfl he
  · split at h
    · rename_i hc
      cases h
      exact ⟨rfl, hc⟩
    · cases h; exact absurd rfl he
theorem parse_two (s : SpecM) (t : Bt) : (parseF s t).2 = 340 ∨ (parseF s t).2 = 0 := by
  unfold parseF
  split
  · exact .inl rfl
  · split
    · exact .inr rfl
    · exact .inl rfl
theorem parse_ext {s : SpecM} (hp : SpP s) {m : ModM} (hv : validB (fullR m.atoms) s m = true) {more : Bt} (hm : more ≠ []) : (parseF s (fmtT s m ++ more)).2 = 340 := by
  unfold parseF
  rw [modelP_app (tab_ok hp hv) more]
  simp only
  split
  · rename_i hc
    have h1 := congrArg List.length hc.2
    rw [List.length_append] at h1
    have : more.length = 0 := by omega
    exact absurd (List.length_eq_zero_iff.1 this) hm
  · rfl
theorem parse_cut {s : SpecM} (hp : SpP s) {m : ModM} (hv : validB (fullR m.atoms) s m = true) {k : Nat} (hk : k < (fmtT s m).length) : (parseF s ((fmtT s m).take k)).2 = 340 := by
  rcases parse_two s ((fmtT s m).take k) with h | h
  · exact h
  · exfalso
    obtain ⟨m', e, hpe⟩ : ∃ m' e, parseF s ((fmtT s m).take k) = (m', e) := ⟨_, _, rfl⟩
    rw [hpe] at h
    obtain ⟨_, hv', hf⟩ := parse_ok hpe (by show e ≠ 340; have : e = 0 := h; omega)
    have h1 := parse_ext hp hv' (more := (fmtT s m).drop k) (by
      intro e
      have := congrArg List.length e
      rw [List.length_drop] at this
      simp only [List.length_nil] at this
      omega)
    rw [hf, List.take_append_drop, parse_fmt hp hv] at h1
    cases h1
end Go.Ab
/- Chapter 34: the laws' head is true. -/
namespace Go.Ab
open Go Go.Proofs
open Nat (reduceAdd reduceSub)
set_option maxRecDepth 100000
set_option maxHeartbeats 64000000
def hS : SpecM := ⟨[(⟨#[65]⟩, false), (⟨#[66]⟩, false)], [⟨⟨#[102]⟩, [0, 1], true⟩, ⟨⟨#[115]⟩, [0], false⟩], ⟨none, 0, 0⟩, ⟨none, 0, 0⟩⟩
def hM : ModM := ⟨[2, 1], 2, [[(2, [2, 5]), (1, [1])], [(2, []), (1, [1])]], 1⟩
def hT : Bt := [115, 99, 111, 112, 101, 32, 65, 61, 50, 32, 66, 61, 49, 32, 115, 116, 101, 112, 115, 61, 50, 32, 108, 111, 111, 112, 61, 49, 10, 115, 116, 97, 116, 101, 32, 48, 10, 102, 32, 61, 32, 123, 65, 36, 48, 45, 62, 66, 36, 48, 44, 32, 65, 36, 49, 45, 62, 66, 36, 48, 125, 10, 115, 32, 61, 32, 123, 65, 36, 49, 125, 10, 115, 116, 97, 116, 101, 32, 49, 10, 102, 32, 61, 32, 123, 125, 10, 115, 32, 61, 32, 123, 65, 36, 49, 125, 10]
theorem hSp : SpP hS := ⟨by decide, by
  intro q hq
  have : q = (⟨#[65]⟩, false) ∨ q = (⟨#[66]⟩, false) := by simpa [hS] using hq
  rcases this with rfl | rfl
  · exact ⟨by decide, 65, [], rfl, by decide⟩
  · exact ⟨by decide, 66, [], rfl, by decide⟩, by decide, by
  intro f hf
  have : f = ⟨⟨#[102]⟩, [0, 1], true⟩ ∨ f = ⟨⟨#[115]⟩, [0], false⟩ := by simpa [hS] using hf
  rcases this with rfl | rfl
  · exact ⟨by decide, by decide⟩
  · exact ⟨by decide, by decide⟩⟩
theorem hMv : validB (fullR hM.atoms) hS hM = true := by decide +kernel
theorem hMt : fmtT hS hM = hT := by decide +kernel
theorem hTp : parseF hS hT = (hM, 0) := by rw [← hMt]; exact parse_fmt hSp hMv
theorem hTc : (parseF hS (hT.take (hT.length - 1))).2 = 340 := by rw [← hMt]; exact parse_cut hSp hMv (by rw [hMt]; decide)
theorem hT0 : (parseF hS []).2 = 340 := by
  have h := parse_cut hSp hMv (k := 0) (by rw [hMt]; decide)
  rw [List.take_zero] at h
  exact h
attribute [local irreducible] AW AOps thenD inBlockD AR iterEnds roundEndsN inlEnds noGotoD EndsX EndsP byteAt parseF fmtT
theorem head34_fn : FnW errT Tryz.prog 7 [] (litB true) := by
  have hstay_ := errT_stay
  have f1 := format_fn hS hM (fmt_ok hSp hMv)
  rw [hMt] at f1
  have p1 := parse_fn hS hSp (t := hT) (by decide)
  rw [hTp] at p1
  have p2 := parse_fn hS hSp (t := hT.take (hT.length - 1)) (by decide)
  rw [hTc] at p2
  have p3 := parse_fn hS hSp (t := []) (by decide)
  rw [hT0] at p3
  generalize (parseF hS (hT.take (hT.length - 1))).1 = m2 at p2
  generalize (parseF hS []).1 = m3 at p3
  have q1 := rEq07_fn hM hM
  rw [decide_eq_true rfl] at q1
  have e1 : mkS (hT.take (hT.length - 1)) = (mkS hT).extract 0 (((mkS hT).size : Int) - 1).toNat := by
    rw [mk_ext, mk_size, List.drop_zero]; rfl
  rw [e1] at p2
  have hb : mkS hT = ⟨(List.append (115 :: 99 :: 111 :: 112 :: 101 :: 32 :: 65 :: 61 :: 50 :: 32 :: 66 :: 61 :: 49 :: 32 :: 115 :: 116 :: 101 :: 112 :: 115 :: 61 :: 50 :: 32 :: 108 :: 111 :: 111 :: 112 :: 61 :: 49 :: 10 :: 115 :: 116 :: 97 :: 116 :: 101 :: 32 :: 48 :: 10 :: 102 :: 32 :: 61 :: 32 :: 123 :: 65 :: 36 :: 48 :: 45 :: 62 :: 66 :: []) (36 :: 48 :: 44 :: 32 :: 65 :: 36 :: 49 :: 45 :: 62 :: 66 :: 36 :: 48 :: 125 :: 10 :: 115 :: 32 :: 61 :: 32 :: 123 :: 65 :: 36 :: 49 :: 125 :: 10 :: 115 :: 116 :: 97 :: 116 :: 101 :: 32 :: 49 :: 10 :: 102 :: 32 :: 61 :: 32 :: 123 :: 125 :: 10 :: 115 :: 32 :: 61 :: 32 :: 123 :: 65 :: 36 :: 49 :: 125 :: 10 :: [])).toArray⟩ := rfl
  have hsz : (ByteArray.mk (List.append (115 :: 99 :: 111 :: 112 :: 101 :: 32 :: 65 :: 61 :: 50 :: 32 :: 66 :: 61 :: 49 :: 32 :: 115 :: 116 :: 101 :: 112 :: 115 :: 61 :: 50 :: 32 :: 108 :: 111 :: 111 :: 112 :: 61 :: 49 :: 10 :: 115 :: 116 :: 97 :: 116 :: 101 :: 32 :: 48 :: 10 :: 102 :: 32 :: 61 :: 32 :: 123 :: 65 :: 36 :: 48 :: 45 :: 62 :: 66 :: []) (36 :: 48 :: 44 :: 32 :: 65 :: 36 :: 49 :: 45 :: 62 :: 66 :: 36 :: 48 :: 125 :: 10 :: 115 :: 32 :: 61 :: 32 :: 123 :: 65 :: 36 :: 49 :: 125 :: 10 :: 115 :: 116 :: 97 :: 116 :: 101 :: 32 :: 49 :: 10 :: 102 :: 32 :: 61 :: 32 :: 123 :: 125 :: 10 :: 115 :: 32 :: 61 :: 32 :: 123 :: 65 :: 36 :: 49 :: 125 :: 10 :: [])).toArray).size = 97 := rfl
  rw [hb] at f1 p1 p2
  rw [show mkS [] = ⟨#[]⟩ from rfl] at p3
  obtain ⟨a2, s2, x2, l2⟩ := m2
  obtain ⟨a3, s3, x3, l3⟩ := m3
  refine FnW.enter hstay_ (n := 76) Tryz.func7 rfl rfl rfl rfl rfl (by decide) fun g hro_ hwt_ hT => ?_; (try refine nz ?_)
  (refine j182 ?_; refine AOps.buildN 50 [0] rfl rfl rfl rfl rfl rfl rfl rfl rfl ?_; refine nz ?_; refine AOps.buildN 50 [0] rfl rfl rfl rfl rfl rfl rfl rfl rfl ?_; refine nz ?_; refine j116 ?_; refine j170 ?_; refine AOps.buildN 52 [0, 1, 2] rfl rfl rfl rfl rfl rfl rfl rfl rfl ?_; refine nz ?_; refine j69 ?_; refine AOps.buildN 52 [0, 1] rfl rfl rfl rfl rfl rfl rfl rfl rfl ?_; refine nz ?_; (iterate 2 refine j290 ?_); (focus ((with_reducible apply AOps.bsA (k := 3)); (iterate 6 exact rfl); (focus ((repeat ((any_goals (apply PvR.cons)); (all_goals (try exact rfl)); (all_goals (try (repeat (first | exact PvL.nil | apply PvL.cons)))))); (any_goals (exact PvR.nil)); done)); exact rfl; exact rfl; (try refine nz ?_))); refine AOps.buildN 27 [0, 1] rfl rfl rfl rfl rfl rfl rfl rfl rfl ?_; refine nz ?_; refine j80 ?_; refine zB ?_; refine j110 ?_; refine j182 ?_; refine j69 ?_; refine j287 ?_; refine nz ?_; refine j80 ?_; refine zB ?_; refine j110 ?_; refine zq ?_; refine j170 ?_; refine AOps.buildN 30 [0, 1] rfl rfl rfl rfl rfl rfl rfl rfl rfl ?_; refine nz ?_; refine j170 ?_; refine j287 ?_; refine nz ?_; refine j33 ?_; (iterate 2 refine j290 ?_); refine j116 ?_; refine AOps.buildN 54 [0] rfl rfl rfl rfl rfl rfl rfl rfl rfl ?_; refine nz ?_; refine j33 ?_; (with_reducible apply AOps.nilB); exact rfl; exact rfl; (focus ((repeat (first | exact .nil | apply NilC.here | apply NilC.skip)); done)); refine nz ?_; refine j116 ?_; (iterate 2 refine j290 ?_); refine j170 ?_; refine AOps.buildN 33 [0, 3, 2] rfl rfl rfl rfl rfl rfl rfl rfl rfl ?_; refine nz ?_; refine j80 ?_; refine zB ?_; refine j110 ?_; refine zq ?_; refine j33 ?_; refine zm ?_; (iterate 2 refine j313 ?_); (with_reducible apply AOps.callWp (hf := p1)); (first | (with_reducible assumption) | (refine TB.gs ?_ (by with_reducible assumption); with_reducible assumption) | (refine TB.gi ?_ (by with_reducible assumption); with_reducible assumption) | exact TB.none _); (repeat (first | exact .nil | (refine .cons rfl ?_ ?_; (first | exact .pv _ | exact .own _ _ _ _ rfl | exact .nil _ | exact .any _ | exact .rptr _ | (refine .aggL ?_; repeat (first | exact .nil | (refine .cons ?_ ?_; (first | exact .pv _ | exact .own _ _ _ _ rfl | exact .nil _)))))))); exact rfl; refine j136 ?_; refine j80 ?_; refine zB ?_; refine nz ?_; refine j3 ?_; refine zo ?_; refine AW.regionM [0, 1, 2, 3, 4, 5] [11] rfl (by assumption) (by kernel_rfl) (by kernel_rfl) rfl ?_; show AOps .held _ _ _ [_, _, _, _, _, _] _ _; refine j33 ?_; (iterate 2 refine zm ?_); refine AOps.len_str rfl rfl rfl rfl ?_; refine AOps.sub rfl rfl rfl rfl rfl (by omega) ?_; refine j234 ?_; refine j5 ?_; intro k_ hk_; refine nz ?_; apply AR.cut [5, 4, 3, 2, 1, 0, 6, 7, 8, 9, 10, 11]; intro hJ_0; apply AR.cut [5, 4, 3, 2, 1, 0, 6, 7, 8, 9, 10]; intro hJ_1; apply AR.cut [5, 4, 3, 2, 1, 0, 6, 7, 8, 10]; intro hJ_2; apply AR.cut [5, 4, 3, 2, 1, 0, 6, 7, 9, 10]; intro hJ_3; apply AR.cut [5, 4, 3, 2, 1, 0, 6, 7, 8, 9]; intro hJ_4; apply AR.cut [5, 4, 3, 2, 1, 0, 6, 7, 10]; intro hJ_5; (refine AR.step2M (i := 6) (j := 10) rfl (by kernel_rfl) rfl rfl ?_ ?_ <;> intro g_ hgro_ hw_); (with_reducible apply AOps.callWp (hf := p2)); (first | (with_reducible assumption) | (refine TB.gs ?_ (by with_reducible assumption); with_reducible assumption) | (refine TB.gi ?_ (by with_reducible assumption); with_reducible assumption) | exact TB.none _); (repeat (first | exact .nil | (refine .cons rfl ?_ ?_; (first | exact .pv _ | exact .own _ _ _ _ rfl | exact .nil _ | exact .any _ | exact .rptr _ | (refine .aggL ?_; repeat (first | exact .nil | (refine .cons ?_ ?_; (first | exact .pv _ | exact .own _ _ _ _ rfl | exact .nil _)))))))); exact rfl; refine j5 ?_; (refine AR.step2M (i := 7) (j := 10) rfl (by kernel_rfl) rfl rfl ?_ ?_ <;> intro g_ hgro_ hw_); refine AOps.move_tup rfl rfl rfl ?_; refine j5 ?_; (refine AR.step3M (i := 8) (j := 9) (m := 10) rfl (by kernel_rfl) rfl rfl rfl ?_ ?_ ?_ <;> intro g_ hgro_ hw_); refine AOps.extract rfl rfl rfl rfl ?_; refine j5 ?_; (refine AR.step2M (i := 9) (j := 10) rfl (by kernel_rfl) rfl rfl ?_ ?_ <;> intro g_ hgro_ hw_); refine AOps.extract rfl rfl rfl rfl ?_; refine j23 ?_; refine AR.gc [13, 12, 11, 7, 6, 4] rfl ?_; refine j79 ?_; exact AR.perm (by kernel_rfl) hJ_4; refine j306 ?_; exact AR.perm (by kernel_rfl) hJ_2; refine AOps.extract rfl rfl rfl rfl ?_; refine j5 ?_; (refine AR.step2M (i := 8) (j := 10) rfl (by kernel_rfl) rfl rfl ?_ ?_ <;> intro g_ hgro_ hw_); refine AOps.extract rfl rfl rfl rfl ?_; refine j162 ?_; refine AR.meet hJ_4 (by kernel_rfl) (fun g_ => weak rfl ?_ ?_ rfl); (iterate 45 refine ⟨.eq rfl rfl, ?_⟩); exact trivial; refine ⟨.box _ rfl ?_, ?_⟩; (iterate 4 refine ⟨.eq rfl rfl, ?_⟩); exact trivial; refine ⟨.box _ rfl ?_, ?_⟩; (iterate 4 refine ⟨.eq rfl rfl, ?_⟩); exact trivial; (iterate 2 refine ⟨.row rfl, ?_⟩); refine ⟨.box _ rfl ?_, ?_⟩; (iterate 2 refine ⟨.eq rfl rfl, ?_⟩); exact trivial; refine ⟨.box _ rfl ?_, ?_⟩; (iterate 4 refine ⟨.eq rfl rfl, ?_⟩); (iterate 2 exact trivial); refine j306 ?_; exact AR.perm (by kernel_rfl) hJ_3; refine j306 ?_; exact AR.perm (by kernel_rfl) hJ_5; refine j80 ?_; refine j5 ?_; refine AR.step1M (i := 7) rfl (by kernel_rfl) rfl ?_; intro g_ hgro_ hw_; exact j309; refine j80 ?_; refine j5 ?_; refine AR.step1M (i := 6) rfl (by kernel_rfl) rfl ?_; intro g_ hgro_ hw_; (with_reducible apply AOps.callWp (hf := p2)); (first | (with_reducible assumption) | (refine TB.gs ?_ (by with_reducible assumption); with_reducible assumption) | (refine TB.gi ?_ (by with_reducible assumption); with_reducible assumption) | exact TB.none _); (repeat (first | exact .nil | (refine .cons rfl ?_ ?_; (first | exact .pv _ | exact .own _ _ _ _ rfl | exact .nil _ | exact .any _ | exact .rptr _ | (refine .aggL ?_; repeat (first | exact .nil | (refine .cons ?_ ?_; (first | exact .pv _ | exact .own _ _ _ _ rfl | exact .nil _)))))))); exact rfl; refine j5 ?_; refine AR.step1M (i := 7) rfl (by kernel_rfl) rfl ?_; intro g_ hgro_ hw_; exact j309; (refine AR.step2M (i := 8) (j := 9) rfl (by kernel_rfl) rfl rfl ?_ ?_ <;> intro g_ hgro_ hw_); refine AOps.extract rfl rfl rfl rfl ?_; refine j162 ?_; refine AR.meet hJ_2 (by kernel_rfl) (fun g_ => weak rfl ?_ ?_ rfl); (iterate 45 refine ⟨.eq rfl rfl, ?_⟩); exact trivial; exact j17; refine AOps.extract rfl rfl rfl rfl ?_; refine j162 ?_; refine AR.meet hJ_3 (by kernel_rfl) (fun g_ => weak rfl ?_ ?_ rfl); (iterate 45 refine ⟨.eq rfl rfl, ?_⟩); exact trivial; exact j17; refine AR.step1M (i := 10) rfl (by kernel_rfl) rfl ?_; intro g_ hgro_ hw_; refine j80 ?_; refine j23 ?_; exact AR.perm (by kernel_rfl) hJ_1; refine AR.step1M (i := 8) rfl (by kernel_rfl) rfl ?_; intro g_ hgro_ hw_; exact j302; (refine AR.step2L (i := 9) (j := 11) rfl (by kernel_rfl) rfl rfl (by kernel_rfl) ?_ ?_ <;> intro g_ hgro_ hwt2_); exact j302; refine zB ?_; refine j304 ?_; refine j100 ?_; intro g_ hgro_ hwt2_; refine AOps.extract rfl rfl rfl rfl ?_; refine j23 ?_; exact AR.perm (by kernel_rfl) hJ_0; refine AR.step1LM (i := 11) rfl (by kernel_rfl) rfl (by kernel_rfl) ?_; intro g_ hgro_ hwt2_; refine zB ?_; refine nz ?_; refine j162 ?_; refine AR.meet hJ_0 (by kernel_rfl) (fun g_ => weak rfl ?_ ?_ rfl); (iterate 46 refine ⟨.eq rfl rfl, ?_⟩); exact trivial; exact j17; refine AR.step1LM (i := 12) rfl (by kernel_rfl) rfl (by kernel_rfl) ?_; intro g_ hgro_ hwt2_; refine za ?_; refine j95 ?_; refine thenD_n ?_; refine j2 ?_; refine j33 ?_; (with_reducible apply AOps.callWp (hf := p3)); (first | (with_reducible assumption) | (refine TB.gs ?_ (by with_reducible assumption); with_reducible assumption) | (refine TB.gi ?_ (by with_reducible assumption); with_reducible assumption) | exact TB.none _); (repeat (first | exact .nil | (refine .cons rfl ?_ ?_; (first | exact .pv _ | exact .own _ _ _ _ rfl | exact .nil _ | exact .any _ | exact .rptr _ | (refine .aggL ?_; repeat (first | exact .nil | (refine .cons ?_ ?_; (first | exact .pv _ | exact .own _ _ _ _ rfl | exact .nil _)))))))); exact rfl; refine j136 ?_; refine j80 ?_; refine zB ?_; refine nz ?_; refine j39 ?_; refine j130 ?_; refine zA (f1) ?_; refine zm ?_; refine AOps.eqlS rfl rfl rfl rfl rfl ?_; refine zm ?_; refine zl ?_; refine zm ?_; refine zl ?_; refine j268 ?_; refine zm ?_; refine j123 ?_; refine zA (q1) ?_; refine j328 ?_; refine zl ?_; refine zm ?_; refine zl ?_; refine j268 ?_; refine zm ?_; refine zl ?_; refine zm ?_; refine zl ?_; refine j268 ?_; refine j62 ?_)
  (apply ends_ret; (exact Res.one (.tmp rfl rfl)); (refine Le.litB ?_; (rfl)))
end Go.Ab
/- Chapter 34: the laws of the round trip and of distinct texts, walked. -/
namespace Go.Ab
open Go Go.Proofs
open Nat (reduceAdd reduceSub)
set_option maxRecDepth 20000
set_option maxHeartbeats 16000000
theorem fmt_inj {s : SpecM} (hp : SpP s) {a b : ModM} (ha : validB (fullR a.atoms) s a = true) (hb : validB (fullR b.atoms) s b = true) (h : fmtT s a = fmtT s b) : a = b := by
  have h1 := parse_fmt hp ha
  rw [h, parse_fmt hp hb] at h1
  exact (Prod.mk.inj h1).1.symm
attribute [local irreducible] AW AOps thenD inBlockD AR iterEnds roundEndsN inlEnds noGotoD EndsX EndsP byteAt parseF fmtT mkS
theorem lawInj_fn (s : SpecM) (a b : ModM) : FnW errT Tryz.prog 5 [spc s, mdl a, mdl b] (litB true) := by
  have hstay_ := errT_stay
  have hh := head34_fn
  have h1 := few_fn s a
  have h2 := few_fn s b
  cases e1 : fewB s a with
  | false =>
    rw [e1] at h1
    obtain ⟨so, fs, p, q⟩ := s
    obtain ⟨ats, stp, sts, lp⟩ := a
    obtain ⟨atb, stb, stsb, lpb⟩ := b
    refine FnW.enter hstay_ (n := 46) Tryz.func5 rfl rfl rfl rfl rfl (by decide) fun g hro_ hwt_ hT => ?_; (try refine nz ?_)
    (refine j217 ?_; (with_reducible apply AOps.callW (hf := hh)); (first | (with_reducible assumption) | (refine TB.gs ?_ (by with_reducible assumption); with_reducible assumption) | (refine TB.gi ?_ (by with_reducible assumption); with_reducible assumption) | exact TB.none _); (repeat (first | exact .nil | (refine .cons rfl ?_ ?_; (first | exact .pv _ | exact .own _ _ _ _ rfl | exact .nil _ | exact .any _ | exact .rptr _ | (refine .aggL ?_; repeat (first | exact .nil | (refine .cons ?_ ?_; (first | exact .pv _ | exact .own _ _ _ _ rfl | exact .nil _)))))))); exact rfl; exact rfl; exact (fun h_ => by cases h_); refine j27 ?_; refine j130 ?_; refine zA (h1) ?_; refine j109 ?_; refine j87 ?_; refine zm ?_; refine j87 ?_; refine zm ?_; refine j87 ?_; refine j147 ?_; refine j314 ?_)
    (apply ends_ret; (exact Res.one (.tmp rfl rfl)); (refine Le.litB ?_; (rfl)))
  | true =>
  rw [e1] at h1
  cases e2 : fewB s b with
  | false =>
    rw [e2] at h2
    obtain ⟨so, fs, p, q⟩ := s
    obtain ⟨ats, stp, sts, lp⟩ := a
    obtain ⟨atb, stb, stsb, lpb⟩ := b
    refine FnW.enter hstay_ (n := 46) Tryz.func5 rfl rfl rfl rfl rfl (by decide) fun g hro_ hwt_ hT => ?_; (try refine nz ?_)
    (refine j217 ?_; (with_reducible apply AOps.callW (hf := hh)); (first | (with_reducible assumption) | (refine TB.gs ?_ (by with_reducible assumption); with_reducible assumption) | (refine TB.gi ?_ (by with_reducible assumption); with_reducible assumption) | exact TB.none _); (repeat (first | exact .nil | (refine .cons rfl ?_ ?_; (first | exact .pv _ | exact .own _ _ _ _ rfl | exact .nil _ | exact .any _ | exact .rptr _ | (refine .aggL ?_; repeat (first | exact .nil | (refine .cons ?_ ?_; (first | exact .pv _ | exact .own _ _ _ _ rfl | exact .nil _)))))))); exact rfl; exact rfl; exact (fun h_ => by cases h_); refine j200 ?_; refine zm ?_; refine j87 ?_; refine zm ?_; refine j87 ?_; refine j147 ?_; refine j314 ?_)
    (apply ends_ret; (exact Res.one (.tmp rfl rfl)); (refine Le.litB ?_; (rfl)))
  | true =>
  rw [e2] at h2
  obtain ⟨hsp, hsm⟩ := few_spec e1
  have hss := small_spec hsm
  have v1 := rValid_fn s a (by omega) fun f hf => by have := hss.2 f hf; omega
  have v2 := rValid_fn s b (by omega) fun f hf => by have := hss.2 f hf; omega
  rw [valid_eq] at v1 v2
  cases g1 : validB (fullR a.atoms) s a with
  | false =>
    rw [g1] at v1
    obtain ⟨so, fs, p, q⟩ := s
    obtain ⟨ats, stp, sts, lp⟩ := a
    obtain ⟨atb, stb, stsb, lpb⟩ := b
    refine FnW.enter hstay_ (n := 46) Tryz.func5 rfl rfl rfl rfl rfl (by decide) fun g hro_ hwt_ hT => ?_; (try refine nz ?_)
    (refine j217 ?_; (with_reducible apply AOps.callW (hf := hh)); (first | (with_reducible assumption) | (refine TB.gs ?_ (by with_reducible assumption); with_reducible assumption) | (refine TB.gi ?_ (by with_reducible assumption); with_reducible assumption) | exact TB.none _); (repeat (first | exact .nil | (refine .cons rfl ?_ ?_; (first | exact .pv _ | exact .own _ _ _ _ rfl | exact .nil _ | exact .any _ | exact .rptr _ | (refine .aggL ?_; repeat (first | exact .nil | (refine .cons ?_ ?_; (first | exact .pv _ | exact .own _ _ _ _ rfl | exact .nil _)))))))); exact rfl; exact rfl; exact (fun h_ => by cases h_); refine j200 ?_; refine j325 ?_; refine zm ?_; refine j87 ?_; refine j147 ?_; refine j314 ?_)
    (apply ends_ret; (exact Res.one (.tmp rfl rfl)); (refine Le.litB ?_; (rfl)))
  | true =>
  rw [g1] at v1
  cases g2 : validB (fullR b.atoms) s b with
  | false =>
    rw [g2] at v2
    obtain ⟨so, fs, p, q⟩ := s
    obtain ⟨ats, stp, sts, lp⟩ := a
    obtain ⟨atb, stb, stsb, lpb⟩ := b
    refine FnW.enter hstay_ (n := 46) Tryz.func5 rfl rfl rfl rfl rfl (by decide) fun g hro_ hwt_ hT => ?_; (try refine nz ?_)
    (refine j217 ?_; (with_reducible apply AOps.callW (hf := hh)); (first | (with_reducible assumption) | (refine TB.gs ?_ (by with_reducible assumption); with_reducible assumption) | (refine TB.gi ?_ (by with_reducible assumption); with_reducible assumption) | exact TB.none _); (repeat (first | exact .nil | (refine .cons rfl ?_ ?_; (first | exact .pv _ | exact .own _ _ _ _ rfl | exact .nil _ | exact .any _ | exact .rptr _ | (refine .aggL ?_; repeat (first | exact .nil | (refine .cons ?_ ?_; (first | exact .pv _ | exact .own _ _ _ _ rfl | exact .nil _)))))))); exact rfl; exact rfl; exact (fun h_ => by cases h_); refine j200 ?_; refine j325 ?_; refine zm ?_; refine j123 ?_; refine zA (v2) ?_; refine j61 ?_; refine j147 ?_; refine j314 ?_)
    (apply ends_ret; (exact Res.one (.tmp rfl rfl)); (refine Le.litB ?_; (rfl)))
  | true =>
  rw [g2] at v2
  have f1 := format_fn s a (fmt_ok hsp g1)
  have f2 := format_fn s b (fmt_ok hsp g2)
  have q1 := mEqual_fn a b
  by_cases hab : a = b
  · rw [decide_eq_true hab] at q1
    subst hab
    obtain ⟨so, fs, p, q⟩ := s
    obtain ⟨ats, stp, sts, lp⟩ := a
    generalize fmtT ⟨so, fs, p, q⟩ ⟨ats, stp, sts, lp⟩ = u at *
    refine FnW.enter hstay_ (n := 46) Tryz.func5 rfl rfl rfl rfl rfl (by decide) fun g hro_ hwt_ hT => ?_; (try refine nz ?_)
    (refine j217 ?_; (with_reducible apply AOps.callW (hf := hh)); (first | (with_reducible assumption) | (refine TB.gs ?_ (by with_reducible assumption); with_reducible assumption) | (refine TB.gi ?_ (by with_reducible assumption); with_reducible assumption) | exact TB.none _); (repeat (first | exact .nil | (refine .cons rfl ?_ ?_; (first | exact .pv _ | exact .own _ _ _ _ rfl | exact .nil _ | exact .any _ | exact .rptr _ | (refine .aggL ?_; repeat (first | exact .nil | (refine .cons ?_ ?_; (first | exact .pv _ | exact .own _ _ _ _ rfl | exact .nil _)))))))); exact rfl; exact rfl; exact (fun h_ => by cases h_); refine j27 ?_; refine j130 ?_; refine zA (h1) ?_; refine j109 ?_; refine j123 ?_; refine zA (h1) ?_; refine j61 ?_; (iterate 2 refine j325 ?_); refine j121 ?_; refine j29 ?_; refine zo ?_; (with_reducible apply AW.regionQ); exact rfl; exact rfl; kernel_rfl; (with_reducible assumption); (iterate 2 refine zm ?_); refine j123 ?_; refine zA (f1) ?_; refine j123 ?_; refine zA (f1) ?_; refine j279 ?_; refine j62 ?_)
    (apply ends_ret; (exact Res.one (.tmp rfl rfl)); (refine Le.litB ?_; (first | rfl | simp)))
  · rw [decide_eq_false hab] at q1
    have hne : ¬ mkS (fmtT s a) = mkS (fmtT s b) := fun h => hab (fmt_inj hsp g1 g2 (mk_inj.1 h))
    obtain ⟨so, fs, p, q⟩ := s
    obtain ⟨ats, stp, sts, lp⟩ := a
    obtain ⟨atb, stb, stsb, lpb⟩ := b
    generalize fmtT ⟨so, fs, p, q⟩ ⟨ats, stp, sts, lp⟩ = u at *
    generalize fmtT ⟨so, fs, p, q⟩ ⟨atb, stb, stsb, lpb⟩ = u2 at *
    refine FnW.enter hstay_ (n := 46) Tryz.func5 rfl rfl rfl rfl rfl (by decide) fun g hro_ hwt_ hT => ?_; (try refine nz ?_)
    (refine j217 ?_; (with_reducible apply AOps.callW (hf := hh)); (first | (with_reducible assumption) | (refine TB.gs ?_ (by with_reducible assumption); with_reducible assumption) | (refine TB.gi ?_ (by with_reducible assumption); with_reducible assumption) | exact TB.none _); (repeat (first | exact .nil | (refine .cons rfl ?_ ?_; (first | exact .pv _ | exact .own _ _ _ _ rfl | exact .nil _ | exact .any _ | exact .rptr _ | (refine .aggL ?_; repeat (first | exact .nil | (refine .cons ?_ ?_; (first | exact .pv _ | exact .own _ _ _ _ rfl | exact .nil _)))))))); exact rfl; exact rfl; exact (fun h_ => by cases h_); refine j200 ?_; refine j325 ?_; refine zm ?_; refine j123 ?_; refine zA (v2) ?_; refine j61 ?_; refine j121 ?_; refine j29 ?_; refine zo ?_; (with_reducible apply AW.regionQ); exact rfl; exact rfl; kernel_rfl; (with_reducible assumption); (iterate 2 refine zm ?_); refine j123 ?_; refine zA (f1) ?_; refine j123 ?_; refine zA (f2) ?_; refine j279 ?_; refine j62 ?_)
    (apply ends_ret; (exact Res.one (.tmp rfl rfl)); (refine Le.litB ?_; (first | rfl | simp [hne])))
end Go.Ab
namespace Go.Proofs.YtijkecidjjicbaaGreatDoor.Law3
open Go Go.Ab Go.ChangeShapes Go.WideShapes Go.ChangeAt Go.RowKit
set_option linter.unusedVariables false
theorem own : ownKnob Tryz.prog.godebug = none := by kernel_rfl
theorem laidOut : laidOutB Tryz.prog = true := by kernel_rfl
theorem rdInts : Rd Tryz.prog 28 (fun l : List Int => [ints l]) (fun _ => True) :=
  Rd.map (Rd.slice (e := 3) (k := 1) (by' := 8) Tryz.underlying28 (by kernel_rfl) (by decide) (by kernel_rfl) (by decide) (fun _ => rfl) (Rd.int Tryz.underlying3)) id (fun _ => rfl) (fun _ _ => trivial)
theorem rdSort : Rd Tryz.prog 50 encSo (fun _ => True) :=
  Rd.map (Rd.struct (n := 2) Tryz.underlying50 (by kernel_rfl) (RdF.cons (k := 1) (n := 1) rfl (by kernel_rfl) (Rd.string Tryz.underlying9) (RdF.cons (k := 1) (n := 0) rfl (by kernel_rfl) (Rd.bool Tryz.underlying4) RdF.nil))) (fun p => ((p.1, p.2.1) : SortM)) (fun p => rfl) (fun _ _ => trivial)
theorem rdField : Rd Tryz.prog 52 encF (fun _ => True) :=
  Rd.map (Rd.struct (n := 3) Tryz.underlying52 (by kernel_rfl) (RdF.cons (k := 1) (n := 2) rfl (by kernel_rfl) (Rd.string Tryz.underlying9) (RdF.cons (k := 1) (n := 1) rfl (by kernel_rfl) rdInts (RdF.cons (k := 1) (n := 0) rfl (by kernel_rfl) (Rd.bool Tryz.underlying4) RdF.nil)))) (fun p => (⟨p.1, p.2.1, p.2.2.1⟩ : FieldM)) (fun p => rfl) (fun _ _ => trivial)
def encS (s : SpecM) : List PV := [.slice 2 (s.sorts.map encSo), .slice 3 (s.fields.map encF), .lit (.slice s.preds.a s.preds.l s.preds.c), .lit (.slice s.facts.a s.facts.l s.facts.c)]
theorem rdSpec : Rd Tryz.prog 27 encS (fun _ => True) :=
  Rd.map (Rd.struct (n := 4) Tryz.underlying27 (by kernel_rfl) (RdF.cons (k := 1) (n := 3) rfl (by kernel_rfl) (Rd.slice (e := 50) (k := 2) (by' := 24) Tryz.underlying22 (by kernel_rfl) (by decide) (by kernel_rfl) (by decide) (fun _ => rfl) rdSort) (RdF.cons (k := 1) (n := 2) rfl (by kernel_rfl) (Rd.slice (e := 52) (k := 3) (by' := 48) Tryz.underlying23 (by kernel_rfl) (by decide) (by kernel_rfl) (by decide) (fun _ => rfl) rdField) (RdF.cons (k := 1) (n := 1) rfl (by kernel_rfl) (Rd.raw Tryz.underlying24) (RdF.cons (k := 1) (n := 0) rfl (by kernel_rfl) (Rd.raw Tryz.underlying25) RdF.nil)))))
    (fun p => (⟨p.1, p.2.1, ⟨p.2.2.1.1, p.2.2.1.2.1, p.2.2.1.2.2⟩, ⟨p.2.2.2.1.1, p.2.2.2.1.2.1, p.2.2.2.1.2.2⟩⟩ : SpecM)) (fun p => rfl) (fun _ _ => trivial)
theorem rdScope : Rd Tryz.prog 30 (fun p : List Int × Int => [ints p.1, .lit (.int .i64 p.2)]) (fun _ => True) :=
  Rd.map (Rd.struct (n := 2) Tryz.underlying30 (by kernel_rfl) (RdF.cons (k := 1) (n := 1) rfl (by kernel_rfl) rdInts (RdF.cons (k := 1) (n := 0) rfl (by kernel_rfl) (Rd.int Tryz.underlying3) RdF.nil))) (fun p => (p.1, p.2.1)) (fun p => rfl) (fun _ _ => trivial)
theorem rdRel : Rd Tryz.prog 54 encR (fun _ => True) :=
  Rd.map (Rd.struct (n := 2) Tryz.underlying54 (by kernel_rfl) (RdF.cons (k := 1) (n := 1) rfl (by kernel_rfl) (Rd.int Tryz.underlying3) (RdF.cons (k := 1) (n := 0) rfl (by kernel_rfl) rdInts RdF.nil))) (fun p => (p.1, p.2.1)) (fun p => rfl) (fun _ _ => trivial)
theorem rdRels : Rd Tryz.prog 55 (fun l : List RelM => [rels l]) (fun _ => True) :=
  Rd.map (Rd.slice (e := 54) (k := 2) (by' := 32) Tryz.underlying55 (by kernel_rfl) (by decide) (by kernel_rfl) (by decide) (fun _ => rfl) rdRel) id (fun _ => rfl) (fun _ _ => trivial)
theorem rdStts : Rd Tryz.prog 31 (fun l : List (List RelM) => [stts l]) (fun _ => True) :=
  Rd.map (Rd.slice (e := 55) (k := 1) (by' := 24) Tryz.underlying31 (by kernel_rfl) (by decide) (by kernel_rfl) (by decide) (fun _ => rfl) rdRels) id (fun _ => rfl) (fun _ _ => trivial)
def encM (m : ModM) : List PV := [ints m.atoms, .lit (.int .i64 m.steps), stts m.states, .lit (.int .i64 m.loop)]
theorem rdMdl : Rd Tryz.prog 33 encM (fun _ => True) :=
  Rd.map (Rd.struct (n := 4) Tryz.underlying33 (by kernel_rfl) (RdF.cons (k := 2) (n := 2) rfl (by kernel_rfl) rdScope (RdF.cons (k := 1) (n := 1) rfl (by kernel_rfl) rdStts (RdF.cons (k := 1) (n := 0) rfl (by kernel_rfl) (Rd.int Tryz.underlying3) RdF.nil)))) (fun p => (⟨p.1.1, p.1.2, p.2.1, p.2.2.1⟩ : ModM)) (fun p => rfl) (fun _ _ => trivial)
theorem ra_true {N : Nat → Prop} {w : World} {v : Value} (h : RA (pcx N) w v (litB true)) : v = .bool true := by
  cases h with
  | pv h => cases h; rfl
noncomputable abbrev laidOf {H : Type} : List (String × DataW H) := [("math/bits.deBruijn32tab", Rows.laid_math_bits_deBruijn32tab), ("math/bits.deBruijn64tab", Rows.laid_math_bits_deBruijn64tab), ("internal/strconv.uint64pow10", Rows.laid_internal_strconv_uint64pow10), ("strconv.ErrRange", Rows.laid_strconv_ErrRange), ("strconv.ErrSyntax", Rows.laid_strconv_ErrSyntax)]
set_option maxRecDepth 100000 in
theorem door_met (os : Os) (args : Array Value) : laidMetH Tryz.prog laidOf ((World.doorLaid Tryz.prog 62 os).forCall (fun _ _ => 0) ⟨#[], args, []⟩).memory :=
  laidMetH_of_parts3 (fuel := 8) (laidMet_of_run' 8 (by kernel_rfl) (by kernel_rfl)) (by kernel_rfl) (by kernel_rfl)
theorem rowErr (u : TypeId) (h : Tryz.prog.typeName? 3 u = some "*errors.errorString") : u = 188 :=
  typeName_ptr_named (nm := "errors.errorString") (by rw [show "*" ++ "errors.errorString" = "*errors.errorString" by decide]; kernel_rfl) (by kernel_rfl) (by decide) u (by rw [show "*" ++ "errors.errorString" = "*errors.errorString" by decide]; exact h)
theorem errHere {W : World} (h : laidMetH Tryz.prog laidOf W) : errT W := by
  have h1 : laidMet Tryz.prog laidOf W := h
  obtain ⟨a, _, hv, _⟩ := laid_sentinel h1.tail.tail.tail.tail (g := 1) (ti := 58) (tp := 188) (te := 190) (ts := 9) (by kernel_rfl) (by kernel_rfl) Tryz.underlying58 rowErr Tryz.underlying188 Tryz.underlying190 rfl rfl Tryz.underlying9 (by kernel_rfl) (by kernel_rfl)
  exact ⟨_, _, hv⟩
set_option maxRecDepth 100000 in
theorem lifted (os : Os) (started : os.Started) (H : Type) (enc : TypeId × Value → H) :
    ReturnsInHanded {} Tryz.checked os 5 .any (fun w args => (Rows.tableInjectiveSpec.pre enc Tryz.prog Tryz.f5 [] false w args ∧ laidMetH Tryz.prog laidOf w) ∧ sizedMet enc Tryz.prog Tryz.f5 (OpenSpec.ofChange Rows.tableInjectiveSpec) false w args) (Rows.tableInjectiveSpec.post enc Tryz.prog Tryz.f5 false true false false) := by
  refine returnsInHanded_of_change_and (C := Tryz.checked) (X := fun w _ => laidMetH Tryz.prog laidOf w) (fun _ _ _ hh h => h.of_heap hh) own started (by kernel_rfl) Tryz.func5
    (ChangeSpec.witness_shaped (enc := enc) (C := Tryz.checked) (os := os) (X := fun w _ => laidMetH Tryz.prog laidOf w) false (World.doorLaid Tryz.prog 62 os) #[.agg #[.slice none 0 0, .slice none 0 0, .slice none 0 0, .slice none 0 0], .agg #[.slice none 0 0, .int .i64 0, .slice none 0 0, .int .i64 0], .agg #[.slice none 0 0, .int .i64 0, .slice none 0 0, .int .i64 0]] 8 rfl (World.shaped_of_RefB (by kernel_rfl) (by kernel_rfl)) (by kernel_rfl) (by kernel_rfl) (by kernel_rfl) (door_met os _)) ?_
  intro W base args ds gs before hval0 hW hcnd hsz hL _
  have hval : ∀ (j : Nat) t v, Tryz.f5.params[j]? = some t → args[j]? = some v → Value.okWide Tryz.prog W .any base t v := hval0
  have hW' := hW
  obtain ⟨p, q, hA0, hV, rfl, hfz, hnd⟩ := hW
  have hA : DataW.TrodAll enc Tryz.prog W 0 (fun _ => true) true Tryz.f5.params.toList args.toList ds p := hA0
  rw [Tryz.params5] at hA hval
  obtain ⟨v0, vs0, d0, ds0, p0, q0, hargs, rfl, rfl, h0, r0⟩ := trodAll_cons hA
  obtain ⟨v1, vs1, d1, ds1, p1, q1, rfl, rfl, rfl, h1, r1⟩ := trodAll_cons r0
  obtain ⟨v2, vs2, d2, ds2, p2, q2, rfl, rfl, rfl, h2, r2⟩ := trodAll_cons r1
  obtain ⟨rfl, rfl, rfl⟩ := trodAll_nil r2
  obtain rfl : args = #[v0, v1, v2] := by cases args; simp_all
  obtain ⟨rfl, rfl⟩ := trodVars_none hV
  have wt : ∀ (j : Nat) (t : TypeId) (d : DataW H), [27, 33, 33][j]? = some t → [d0, d1, d2][j]? = some d → ∀ n ∈ d.weights Tryz.prog t, n ≤ reachBytes := by
    intro j t d ht hd
    have hj : j < 3 := (List.getElem?_eq_some_iff.1 ht).1
    refine arg_weights hsz (j := j) ?_ ?_
    · rw [List.getElem?_append_left (by rw [Tryz.params5]; exact hj), Tryz.params5]; exact ht
    · rw [List.getElem?_append_left (by simpa using hj)]; exact hd
  obtain ⟨cs0, rfl⟩ := Ab.okWide_struct Tryz.underlying27 (hval 0 27 v0 rfl rfl)
  obtain ⟨cs1, rfl⟩ := Ab.okWide_struct Tryz.underlying33 (hval 1 33 v1 rfl rfl)
  obtain ⟨cs2, rfl⟩ := Ab.okWide_struct Tryz.underlying33 (hval 2 33 v2 rfl rfl)
  obtain ⟨x0, s0, o0⟩ := arg_agg rdSpec h0 (wt 0 27 d0 rfl rfl) rfl
  obtain ⟨x1, s1, o1⟩ := arg_agg rdMdl h1 (wt 1 33 d1 rfl rfl) rfl
  obtain ⟨x2, s2, o2⟩ := arg_agg rdMdl h2 (wt 2 33 d2 rfl rfl) rfl
  have lt0 : ∀ x ∈ p0, x.block < W.heap.size := by obtain ⟨m, hm⟩ := h0; exact DataW.trod_lt m _ _ _ hm
  have lt1 : ∀ x ∈ p1, x.block < W.heap.size := by obtain ⟨m, hm⟩ := h1; exact DataW.trod_lt m _ _ _ hm
  have lt2 : ∀ x ∈ p2, x.block < W.heap.size := by obtain ⟨m, hm⟩ := h2; exact DataW.trod_lt m _ _ _ hm
  clear hA0 hval0
  refine ((lawInj_fn x0 x1 x2).calls (fun _ => True) W _ (errHere hL) (fun _ _ => trivial) rfl ?_).mono fun e W' ⟨v, he, hv, bel⟩ => ?_
  · intro j v av hj hav
    match j, hj, hav with
    | 0, hj, hav => cases hj; cases hav; exact s0
    | 1, hj, hav => cases hj; cases hav; exact s1
    | 2, hj, hav => cases hj; cases hav; exact s2
    | j + 3, hj, hav => simp at hav
  · obtain rfl := ra_true hv
    subst he
    exact ⟨_, rfl, _, _, _, [], _, [], hW', trodAll_mk1 (shut_bool Tryz.underlying4 _), (trodAll_cons_mk (Below.trod laidOut (by kernel_rfl) (of_decide_eq_true (by kernel_rfl)) h0 bel lt0) (trodAll_cons_mk (Below.trod laidOut (by kernel_rfl) (of_decide_eq_true (by kernel_rfl)) h1 bel lt1) (trodAll_cons_mk (Below.trod laidOut (by kernel_rfl) (of_decide_eq_true (by kernel_rfl)) h2 bel lt2) trodAll_mk0))), rfl, bel.frame _, fun h => by cases h⟩
theorem over : Rows.tableInjectiveRow.holds Tryz.pinned (OpenSpec.ofChange Rows.tableInjectiveSpec) :=
  OpenClaim.holds_of_wide 5 Tryz.f5 rfl rfl rfl rfl rfl rfl rfl ⟨rfl, rfl, rfl, rfl, rfl⟩ rfl rfl rfl rfl rfl (by kernel_rfl) Tryz.func5 (by kernel_rfl)
    (of_decide_eq_true (by kernel_rfl)) (by unfold Func.isWrapper; first | (rw [if_pos (by decide +kernel)]; kernel_rfl) | (rw [if_neg (by decide +kernel)]; exact ⟨rfl, rfl⟩))
    (fun os started H enc _ => lifted os started H enc)
set_option maxRecDepth 100000 in
theorem proved : Rows.TableInjectiveCardSaid :=
  Claim7.holds_tied_plain_at .later [] [.data, .data, .data, .sentinel, .sentinel] true (true, "0ece976bdfb03ccaad2ced6d24e0ca89ff43059ee33ad792ea19b17f3b6203ec") true
    over (fun _ h => by cases h) (by kernel_rfl) (fun _ h => by cases h) tableInjective_row_tie rfl ⟨rfl, rfl⟩ (by kernel_rfl) rfl
    (fun f fn hf hfn => by
      obtain rfl : f = 5 := Option.some.inj ((show Tryz.prog.funcNamed "armature/armaturelaw34.TableInjective" = some 5 by kernel_rfl).symm.trans hf) |>.symm
      obtain rfl : fn = Tryz.f5 := (Option.some.inj (Tryz.func5.symm.trans hfn)).symm
      exact ⟨by kernel_rfl, fun j t ht => by
        rw [Tryz.params5] at ht
        have hm : t ∈ [27, 33, 33] := by simpa using Array.mem_of_getElem? ht
        have hall : ([27, 33, 33].all fun u => !Tryz.prog.wantsStandIn u) = true := by kernel_rfl
        exact (show Tryz.prog.wantsStandIn t = false by simpa using List.all_eq_true.1 hall t hm)⟩)
    (by kernel_rfl)
#print axioms proved
end Go.Proofs.YtijkecidjjicbaaGreatDoor.Law3
