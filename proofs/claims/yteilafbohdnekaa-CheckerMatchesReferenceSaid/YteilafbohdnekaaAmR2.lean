/- Chapter 23: the reference's unit propagation implies what the program's does. -/
import Derived.Test.YteilafbohdnekaaAmR1
import Derived.Test.YteilafbohdnekaaAbL2
set_option linter.unusedSimpArgs false
set_option linter.unusedVariables false
namespace Go.Ab
open Go Go.Proofs
open Nat (reduceAdd reduceSub)
set_option maxRecDepth 20000
set_option maxHeartbeats 8000000
theorem contra_neg (c : List Int) : contraM (c.map fun x => 0 - x) = c.any fun x => decide ((0 - x) ∈ c) := by
  unfold contraM
  rw [Bool.eq_iff_iff, List.any_eq_true, List.any_eq_true]
  constructor
  · rintro ⟨y, hy, h⟩
    obtain ⟨x, hx, rfl⟩ := List.mem_map.1 hy
    obtain ⟨z, hz, e⟩ := List.mem_map.1 (show (0 - (0 - x)) ∈ c.map fun x => 0 - x by simpa using h)
    refine ⟨z, hz, decide_eq_true ?_⟩
    rw [show 0 - z = x by omega]; exact hx
  · rintro ⟨x, hx, h⟩
    rw [decide_eq_true_eq] at h
    refine ⟨0 - x, List.mem_map.2 ⟨x, hx, rfl⟩, ?_⟩
    have : (0 - (0 - x)) ∈ c.map fun x => 0 - x := List.mem_map.2 ⟨_, h, rfl⟩
    simpa using this
/-- neither falsified nor unit, all but one of the literals false: the one is true. -/
theorem status_zero2 {d T : List Int} (hT : ∀ x ∈ T, (0 - x) ∉ T) (h0 : ∀ x ∈ d, x ≠ 0) (h : (statusM d T).1 = 0) {x : Int} (hx : ∀ y ∈ d, y ≠ x → (-y) ∈ T) : x ∈ T := by
  rw [statusM_open d T h0] at h
  cases ho : openFrom T d [] with
  | none =>
    obtain ⟨y, h1, h2⟩ := openFrom_none T d [] ho
    by_cases e : y = x
    · exact e ▸ h2
    · have := hx y h1 e
      exact absurd (by simpa using this) (hT _ h2)
  | some r =>
    have hm := openFrom_mem T d [] r ho (by simp)
    have hn := openFrom_nodup T d [] r ho (by simp)
    have hr : ∀ y ∈ r, y = x := by
      intro y hy
      have := hm y hy
      by_cases e : y = x
      · exact e
      · exact absurd (hx y (by simpa using this.1) e) this.2.2
    rw [ho] at h
    rcases r with _ | ⟨a, _ | ⟨b, r⟩⟩
    · simp [stOf] at h
    · simp [stOf] at h
    · have e1 := hr a (by simp)
      have e2 := hr b (by simp)
      rw [List.nodup_cons] at hn
      exact absurd (by rw [e1, e2]; simp) hn.1
/-- a set of literals that are implied, so many passes on. -/
structure DerR (vars : Int) (cl : List (List Int)) (a S : List Int) (n : Nat) : Prop where
  sub : ∀ x ∈ a, x ∈ S
  no : ∀ x ∈ S, (0 - x) ∉ S
  der : (runM vars cl a).2.2 = -1 → ∀ x ∈ S, x ∈ (runM vars cl a).1
  add : ∃ m, S = a ++ m ∧ Dist vars m ∧ n ≤ m.length
theorem DerR.le {vars : Int} {cl : List (List Int)} {a S : List Int} {n m : Nat} (h : DerR vars cl a S n) (hm : m ≤ n) : DerR vars cl a S m :=
  ⟨h.sub, h.no, h.der, by obtain ⟨t, h1, h2, h3⟩ := h.add; exact ⟨t, h1, h2, by omega⟩⟩
theorem DerR.len {V : Nat} {cl : List (List Int)} {a S : List Int} {n : Nat} (h : DerR V cl a S n) : S.length ≤ a.length + V ∧ n ≤ V := by
  obtain ⟨t, rfl, h2, h3⟩ := h.add
  have := h2.len
  rw [List.length_append]
  omega
theorem der_start {vars : Int} {cl : List (List Int)} {a : List Int} (hv : 0 ≤ vars) (hcl : ∀ c ∈ cl, withinM vars c = true) (hw : withinM vars a = true) (hc : contraM a = false) : DerR vars cl a a 0 := by
  have hfin := run_fin hv hcl hw hc
  refine ⟨fun _ h => h, fun x hx hn => ?_, fun _ x hx => (hfin.mem x).2 (List.mem_append.2 (.inl hx)), ⟨[], by simp, ⟨by simp, by simp⟩, Nat.le_refl _⟩⟩
  unfold contraM at hc
  have := List.any_eq_false.1 hc x hx
  simp at this
  exact this (by simpa using hn)
theorem der_step {vars : Int} {cl : List (List Int)} {a S : List Int} {n : Nat} (hv : 0 ≤ vars) (hcl : ∀ c ∈ cl, withinM vars c = true) (hw : withinM vars a = true) (hc : contraM a = false) (h : DerR vars cl a S n) {c : List Int} (hcc : c ∈ cl) (hs : (statusM c S).1 = 2) : DerR vars cl a (S ++ [(statusM c S).2]) (n + 1) := by
  have hb := withinM_spec (hcl c hcc)
  have hop := statusM_unit (fun x hx => (hb x hx).1) hs rfl
  generalize (statusM c S).2 = x at hop ⊢
  have hm := openFrom_mem S c [] _ hop (by simp) x (by simp)
  have hin : x ∈ c := by simpa using hm.1
  have hx := hb x hin
  refine ⟨fun y hy => List.mem_append.2 (.inl (h.sub y hy)), fun y hy hn => ?_, fun hno y hy => ?_, ?_⟩
  · rcases List.mem_append.1 hy with hy1 | hy1 <;> rcases List.mem_append.1 hn with hn1 | hn1
    · exact h.no y hy1 hn1
    · simp at hn1; exact hm.2.2 (by rw [← hn1]; simpa using hy1)
    · simp at hy1; rw [hy1] at hn1; exact hm.2.2 (by simpa using hn1)
    · simp at hy1 hn1; omega
  · rcases List.mem_append.1 hy with hy | hy
    · exact h.der hno y hy
    · simp at hy
      subst hy
      have hfin := run_fin hv hcl hw hc
      have hall : ∀ d ∈ cl, (statusM d (runM vars cl a).1).1 = 0 := by
        rcases hfin.fin with ⟨_, h⟩ | ⟨j, _, h, _⟩
        · exact h
        · omega
      refine status_zero hfin.dist (fun x hx => (hb x hx).1) (hall c hcc) fun z hz hne => ?_
      rcases ((openFrom_all S c [] [y] hop).2 z hz).2 with h3 | h3
      · exact h.der hno _ h3
      · simp at h3; exact absurd h3 hne
  · obtain ⟨m, rfl, h2, h3⟩ := h.add
    refine ⟨m ++ [x], by rw [List.append_assoc], h2.add hx (fun g => hm.2.1 (List.mem_append.2 (.inr g))) (fun g => hm.2.2 (List.mem_append.2 (.inr g))), by simp; omega⟩
theorem der_yes {vars : Int} {cl : List (List Int)} {c0 S : List Int} {n : Nat} (hv : 0 ≤ vars) (hcl : ∀ c ∈ cl, withinM vars c = true) (hw : withinM vars (c0.map fun x => 0 - x) = true) (hc : contraM (c0.map fun x => 0 - x) = false) (h : DerR vars cl (c0.map fun x => 0 - x) S n) {c : List Int} (hcc : c ∈ cl) (hs : (statusM c S).1 = 1) : refImplM vars cl c0 = true := by
  have hb := withinM_spec (hcl c hcc)
  have hfin := run_fin hv hcl hw hc
  rw [refImplM, if_neg (by rw [hc]; simp), decide_eq_true_eq]
  rcases hfin.fin with ⟨hno, hall⟩ | ⟨j, _, h1, _⟩
  · have hneg := status_one (fun x hx => (hb x hx).1) hs
    have h0 : (0 : Int) ∈ (runM vars cl (c0.map fun x => 0 - x)).1 := status_zero hfin.dist (fun x hx => (hb x hx).1) (hall c hcc) fun y hy _ => h.der hno _ (hneg y hy)
    exact absurd rfl (hfin.dist.2 0 h0).1
  · omega
theorem der_no {vars : Int} {cl : List (List Int)} {c0 S : List Int} {n : Nat} (hv : 0 ≤ vars) (hcl : ∀ c ∈ cl, withinM vars c = true) (hw : withinM vars (c0.map fun x => 0 - x) = true) (hc : contraM (c0.map fun x => 0 - x) = false) (h : DerR vars cl (c0.map fun x => 0 - x) S n) (hs : ∀ c ∈ cl, (statusM c S).1 = 0) : refImplM vars cl c0 = false := by
  have hsub : ∀ x ∈ (runM vars cl (c0.map fun x => 0 - x)).1, x ∈ S := by
    refine run_ind1 hv hcl hw hc (fun t => ∀ x ∈ t, x ∈ S) (fun x hx => h.sub x ((startM_mem _ x).1 hx)) ?_
    intro t c x hc0 hI _ hop _ _ _
    have hb := withinM_spec (hcl c hc0)
    have hxS : x ∈ S := status_zero2 h.no (fun x hx => (hb x hx).1) (hs c hc0) fun y hy hne => by
      rcases ((openFrom_all t c [] [x] hop).2 y hy).2 with g | g
      · exact hI _ g
      · simp at g; exact absurd g hne
    intro y hy
    rcases List.mem_append.1 hy with hy | hy
    · exact hI y hy
    · simp at hy; exact hy ▸ hxS
  rw [refImplM, if_neg (by rw [hc]; simp), decide_eq_false_iff_not]
  have hfin := run_fin hv hcl hw hc
  rcases hfin.fin with ⟨h1, _⟩ | ⟨j, hj, _, h1⟩
  · omega
  · have hb := withinM_spec (hcl _ (List.getElem_mem hj))
    have hneg := status_one (fun x hx => (hb x hx).1) h1
    have h0 : (0 : Int) ∈ S := status_zero2 h.no (fun x hx => (hb x hx).1) (hs _ (List.getElem_mem hj)) fun y hy _ => hsub _ (hneg y hy)
    exact absurd (by simpa using h0) (h.no 0 h0)
/-- a pass over the clauses. -/
def growR (cl : List (List Int)) (p : List Int × Bool) : List Int × Bool := cl.foldl (fun p c => if (statusM c p.1).1 = 2 then (p.1 ++ [(statusM c p.1).2], true) else p) p
theorem growR_snoc {cl : List (List Int)} {i : Nat} (hi : i < cl.length) (p : List Int × Bool) : growR (cl.take (i + 1)) p = if (statusM cl[i] (growR (cl.take i) p).1).1 = 2 then ((growR (cl.take i) p).1 ++ [(statusM cl[i] (growR (cl.take i) p).1).2], true) else growR (cl.take i) p := by
  unfold growR
  rw [take_succ_get hi, List.foldl_append]; rfl
def itR (cl : List (List Int)) : Nat → List Int → List Int
  | 0, s => s
  | n + 1, s => (growR cl (itR cl n s, false)).1
attribute [local irreducible] AW AOps thenD inBlockD AR iterEnds roundEndsN inlEnds noGotoD canon sortL compL compZ statusM growR itR refImplM contraM withinM runM
theorem rImpl_fn (vars : Int) (cl : List (List Int)) (c : List Int) (hf : FOk vars cl) (hlc : c.length ≤ 100000) (hw : withinM vars c = true) : Fn Try.prog 56 [fml vars cl, .pv (ints c)] (litB (refImplM vars cl c)) := by
  have hs := sm_within hf.hv hw
  obtain ⟨hv0, hv1⟩ := hf.hv
  obtain ⟨V, rfl⟩ : ∃ V : Nat, vars = V := ⟨vars.toNat, by omega⟩
  have hcl : ∀ c ∈ cl, withinM V c = true := fun c hc => (hf.hcl c hc).1
  have h3 := hf.h3
  have hwn := within_neg hw
  have hz := withinM_spec hw
  have hcn := contra_neg c
  refine Fn.enter (n := 68) Try.func56 rfl rfl rfl rfl rfl (by decide) fun g hro_ hwt_ => ?_; (try (conv => rhs; simp only [Nf.all, Nat.reduceBEq, reduceAdd, reduceSub]))
  (refine zq ?_; refine AOps.box rfl rfl rfl rfl ?_; (conv => rhs; simp only [Nf.all, Nat.reduceBEq, reduceAdd, reduceSub]); refine za ?_; refine zd ?_; refine zq ?_; (conv => rhs; simp only [Nf.all, Nat.reduceBEq, reduceAdd, reduceSub]); refine za ?_; refine zd ?_; refine zo ?_; refine zq ?_; (conv => rhs; simp only [Nf.all, Nat.reduceBEq, reduceAdd, reduceSub]); refine za ?_; refine zd ?_; refine AW.block ?_)
  ((conv => rhs; simp only [Nf.all, Nat.reduceBEq, reduceAdd, reduceSub]); apply AW.loopR [2, 1] [0] (fun i : Nat => ([(6, litI i), (5, .own 1 3 1 (((c.take i).map fun x => 0 - x).map encI))] : List (Nat × AV))) (fun i : Nat => ([(1, some .row)] : List (Nat × Option Ob))) (fun i : Nat => i ≤ c.length ∧ (c.take i).any (fun x => decide ((0 - x) ∈ c)) = false) (fun i : Nat => c.length - i) (0); (conv => lhs; simp only [Nf.lpR, Nf.all, Nat.reduceBEq, reduceAdd, reduceSub]); (all_goals skip))
  · exact ⟨Nat.zero_le _, rfl⟩
  · exact weak rfl (by (first | (refine ⟨.eq rfl rfl, ?_⟩; refine ⟨.nilown _ _ _ rfl rfl, ?_⟩; (iterate 2 refine ⟨.eq rfl rfl, ?_⟩); exact trivial) | (refine ⟨.eq rfl rfl, ?_⟩; (iterate 2 refine ⟨.eq rfl rfl, ?_⟩); exact trivial))) (by (first | (refine ⟨.newrow rfl, ?_⟩; refine ⟨.box _ rfl ?_, ?_⟩; (iterate 2 refine ⟨.eq rfl rfl, ?_⟩); (iterate 2 exact trivial)) | (refine ⟨.row rfl, ?_⟩; refine ⟨.box _ rfl ?_, ?_⟩; (iterate 2 refine ⟨.eq rfl rfl, ?_⟩); (iterate 2 exact trivial)))) rfl
  rintro i ⟨hi, han⟩
  have htl : ((c.take i).map fun x => 0 - x).length ≤ 100000 := by rw [List.length_map, List.length_take]; omega
  by_cases hlt : i < c.length
  · have hx := hs _ (List.getElem_mem hlt)
    have hy := has_fn c (0 - c[i])
    have hsn := any_snoc (p := fun x => decide ((0 - x) ∈ c)) hlt
    rw [han, Bool.false_or] at hsn
    by_cases y : (0 - c[i]) ∈ c
    · rw [decide_eq_true y] at hy
      have e1 : refImplM V cl c = true := by
        have : contraM (c.map fun x => 0 - x) = true := by rw [hcn]; exact any_yes (p := fun x => decide ((0 - x) ∈ c)) hlt (decide_eq_true y)
        unfold refImplM; rw [if_pos this]
      rw [e1]
      (refine zo ?_; refine zq ?_; (iterate 2 refine zm ?_); refine zn ?_; refine zs ?_; refine zd ?_; refine zc ?_; refine AW.skip ?_; refine thenD_n ?_; refine zo ?_; refine AW.block ?_; refine zq ?_; (conv => rhs; simp only [Nf.all, Nat.reduceBEq, reduceAdd, reduceSub]); (iterate 3 refine zm ?_); (focus ((with_reducible apply AOps.index_map); (iterate 7 exact rfl); rotate_left; omega)); refine zr ?_; refine AOps.sub rfl rfl rfl rfl rfl (by omega) ?_; (with_reducible apply AOps.call (hy)); (repeat (first | exact .nil | (refine .cons rfl ?_ ?_; (first | exact .pv _ | exact .own _ _ _ _ rfl | exact .nil _ | exact .any _ | exact .rptr _ | (refine .aggL ?_; repeat (first | exact .nil | (refine .cons ?_ ?_; (first | exact .pv _ | exact .own _ _ _ _ rfl | exact .nil _)))))))); exact rfl; exact rfl; exact (fun h_ => by cases h_); refine za ?_; refine zd ?_; refine zo ?_; refine zq ?_; (conv => rhs; simp only [Nf.all, Nat.reduceBEq, reduceAdd, reduceSub]); refine zm ?_; refine zd ?_; refine AW.cond_lt rfl rfl ?_; refine zq ?_; (conv => rhs; simp only [Nf.all, Nat.reduceBEq, reduceAdd, reduceSub]); refine za ?_; refine zd ?_; refine AW.ret ?_; refine thenD_ret ?_; refine inBlockD_ret ?_; (iterate 2 refine thenD_ret ?_); refine inBlockD_ret ?_; refine thenD_ret ?_)
      (apply ends_ret; (exact Res.one (.tmp rfl rfl)); (refine Le.litB ?_; (rfl)))
    · rw [decide_eq_false y] at hy hsn
      have hms : ((c.take (i + 1)).map fun x => 0 - x) = ((c.take i).map fun x => 0 - x) ++ [0 - c[i]] := by rw [take_succ_get hlt, List.map_append]; rfl
      (refine zo ?_; refine zq ?_; (iterate 2 refine zm ?_); refine zn ?_; refine zs ?_; refine zd ?_; refine zc ?_; refine AW.skip ?_; refine thenD_n ?_; refine zo ?_; refine AW.block ?_; refine zq ?_; (conv => rhs; simp only [Nf.all, Nat.reduceBEq, reduceAdd, reduceSub]); (iterate 3 refine zm ?_); (focus ((with_reducible apply AOps.index_map); (iterate 7 exact rfl); rotate_left; omega)); refine zr ?_; refine AOps.sub rfl rfl rfl rfl rfl (by omega) ?_; (with_reducible apply AOps.call (hy)); (repeat (first | exact .nil | (refine .cons rfl ?_ ?_; (first | exact .pv _ | exact .own _ _ _ _ rfl | exact .nil _ | exact .any _ | exact .rptr _ | (refine .aggL ?_; repeat (first | exact .nil | (refine .cons ?_ ?_; (first | exact .pv _ | exact .own _ _ _ _ rfl | exact .nil _)))))))); exact rfl; exact rfl; exact (fun h_ => by cases h_); refine za ?_; refine zd ?_; refine zo ?_; refine zq ?_; (conv => rhs; simp only [Nf.all, Nat.reduceBEq, reduceAdd, reduceSub]); refine zm ?_; refine zd ?_; refine AW.cond_lf rfl rfl ?_; refine AW.skip ?_; refine thenD_n ?_; refine AW.region ?_; (conv => rhs; simp only [Nf.all, Nat.reduceBEq, reduceAdd, reduceSub]); refine AOps.move_own rfl rfl rfl ?_; (iterate 2 refine zm ?_); (focus ((with_reducible apply AOps.index_map); (iterate 7 exact rfl); rotate_left; omega)); refine zr ?_; refine AOps.sub rfl rfl rfl rfl rfl (by omega) ?_; refine AOps.bs1 rfl rfl rfl rfl rfl rfl rfl rfl ?_; (conv => rhs; simp only [Nf.all, Nat.reduceBEq, reduceAdd, reduceSub]); (with_reducible apply AOps.appendS); exact rfl; (first | exact .pv rfl | exact .own rfl | exact .nil rfl); (iterate 9 exact rfl); (first | omega | (simp only [List.length_map, List.length_append, List.length_cons, List.length_nil, List.length_drop, List.length_take, chunk_len]; omega)); (conv => rhs; simp only [Nf.all, Nat.reduceBEq, reduceAdd, reduceSub]); refine AOps.assign_own rfl rfl rfl ?_; refine AOps.nil ?_; refine inBlockD_n ?_; refine thenD_n ?_; refine AW.region ?_; (conv => rhs; simp only [Nf.all, Nat.reduceBEq, reduceAdd, reduceSub]); refine zm ?_; refine AOps.add rfl rfl rfl rfl rfl (by omega) ?_; refine za ?_; refine zd ?_)
      exact ⟨i + 1, ⟨by omega, hsn⟩, by omega, weak rfl (by (refine ⟨.intE (by first | with_reducible rfl | (first | rfl | (rw [hms, List.map_append]; rfl))), ?_⟩; refine ⟨.ownE (by first | with_reducible rfl | (first | rfl | (rw [hms, List.map_append]; rfl))) rfl, ?_⟩; refine ⟨.eq rfl rfl, ?_⟩; refine ⟨.pvE (by first | with_reducible rfl | (first | rfl | (rw [hms, List.map_append]; rfl))), ?_⟩; exact trivial)) (by (refine ⟨.row rfl, ?_⟩; refine ⟨.box _ rfl ?_, ?_⟩; refine ⟨.intE (by first | with_reducible rfl | (first | rfl | (rw [hms, List.map_append]; rfl))), ?_⟩; refine ⟨.pvE (by first | with_reducible rfl | (first | rfl | (rw [hms, List.map_append]; rfl))), ?_⟩; (iterate 2 exact trivial))) rfl⟩
  rw [take_all (l := c) (by omega)] at han htl ⊢
  have hcf : contraM (c.map fun x => 0 - x) = false := by rw [hcn]; exact han
  have hst := der_start (by omega) hcl hwn hcf
  have hyes := fun {S n d} (h : DerR V cl (c.map fun x => 0 - x) S n) (hd : d ∈ cl) hs => der_yes (by omega) hcl hwn hcf h hd hs
  have hno := fun {S n} (h : DerR V cl (c.map fun x => 0 - x) S n) hs => der_no (by omega) hcl hwn hcf h hs
  have hstep := fun {S n d} (h : DerR V cl (c.map fun x => 0 - x) S n) (hd : d ∈ cl) hs => der_step (by omega) hcl hwn hcf h hd hs
  generalize (c.map fun x => 0 - x) = a at *
  have i0 : itR cl 0 a = a := by unfold itR; rfl
  have g0 : ∀ p, growR [] p = p := fun p => by unfold growR; rfl
  (refine zo ?_; refine zq ?_; (iterate 2 refine zm ?_); refine zn ?_; refine zs ?_; refine zd ?_; refine zk ?_; refine AW.exit ?_; (iterate 2 refine thenD_exit ?_); refine inBlockD_exit ?_; refine thenD_n ?_; refine zo ?_; refine zq ?_; (conv => rhs; simp only [Nf.all, Nat.reduceBEq, reduceAdd, reduceSub]); refine za ?_; refine zd ?_; refine AW.block ?_)
  ((conv => rhs; simp only [Nf.all, Nat.reduceBEq, reduceAdd, reduceSub]); apply AW.loopR [2] [0] (fun n : Nat => ([(8, litI n), (5, .own 1 3 1 ((itR cl n a).map encI))] : List (Nat × AV))) (fun n : Nat => ([(1, some .row)] : List (Nat × Option Ob))) (fun n : Nat => n ≤ V + 1 ∧ DerR V cl a (itR cl n a) n) (fun n : Nat => V + 1 - n) (0); (conv => lhs; simp only [Nf.lpR, Nf.all, Nat.reduceBEq, reduceAdd, reduceSub]); (all_goals skip))
  · exact ⟨Nat.zero_le _, by rw [i0]; exact hst⟩
  · exact weak rfl (by (refine ⟨.intE (by first | with_reducible rfl | (first | rfl | (rw [i0]))), ?_⟩; refine ⟨.ownE (by first | with_reducible rfl | (first | rfl | (rw [i0]))) rfl, ?_⟩; refine ⟨.eq rfl rfl, ?_⟩; exact trivial)) (by (refine ⟨.row rfl, ?_⟩; refine ⟨.box _ rfl ?_, ?_⟩; refine ⟨.intE (by first | with_reducible rfl | (first | rfl | (rw [i0]))), ?_⟩; refine ⟨.pvE (by first | with_reducible rfl | (first | rfl | (rw [i0]))), ?_⟩; (iterate 2 exact trivial))) rfl
  rintro n ⟨hn, hd⟩
  by_cases hnv : n ≤ V
  · have hin : itR cl (n + 1) a = (growR cl (itR cl n a, false)).1 := by rw [itR]
    generalize itR cl n a = S at *
    (refine zo ?_; refine zq ?_; refine zm ?_; refine AOps.fieldAddrN 24 0 0 rfl rfl rfl rfl ?_; refine zb ?_; refine AOps.leq rfl rfl rfl rfl rfl ?_; refine zd ?_; refine zc ?_; refine AW.skip ?_; refine thenD_n ?_; refine zo ?_; refine AW.block ?_; refine zq ?_; (conv => rhs; simp only [Nf.all, Nat.reduceBEq, reduceAdd, reduceSub]); refine za ?_; refine zd ?_; refine zo ?_; refine zq ?_; (conv => rhs; simp only [Nf.all, Nat.reduceBEq, reduceAdd, reduceSub]); refine za ?_; refine zd ?_; refine AW.block ?_)
    ((conv => rhs; simp only [Nf.all, Nat.reduceBEq, reduceAdd, reduceSub]); apply AW.loopR [8, 2] [0] (fun j : Nat => ([(10, litI j), (9, litB (growR (cl.take j) (S, false)).2), (5, .own 1 3 1 ((growR (cl.take j) (S, false)).1.map encI))] : List (Nat × AV))) (fun j : Nat => ([(1, some .row)] : List (Nat × Option Ob))) (fun j : Nat => j ≤ cl.length ∧ DerR V cl a (growR (cl.take j) (S, false)).1 (n + if (growR (cl.take j) (S, false)).2 = true then 1 else 0) ∧ ((growR (cl.take j) (S, false)).2 = false → (growR (cl.take j) (S, false)).1 = S ∧ ∀ d ∈ cl.take j, (statusM d S).1 = 0)) (fun j : Nat => cl.length - j) (0); (conv => lhs; simp only [Nf.lpR, Nf.all, Nat.reduceBEq, reduceAdd, reduceSub]); (all_goals skip))
    · rw [List.take_zero, g0]
      exact ⟨Nat.zero_le _, by simpa using hd, fun _ => ⟨rfl, by simp⟩⟩
    · exact weak rfl (by (refine ⟨.intE (by first | with_reducible rfl | (first | rfl | (rw [List.take_zero, g0]))), ?_⟩; refine ⟨.boolE (by first | with_reducible rfl | (first | rfl | (rw [List.take_zero, g0]))), ?_⟩; refine ⟨.ownE (by first | with_reducible rfl | (first | rfl | (rw [List.take_zero, g0]))) rfl, ?_⟩; refine ⟨.intE (by first | with_reducible rfl | (first | rfl | (rw [List.take_zero, g0]))), ?_⟩; refine ⟨.eq rfl rfl, ?_⟩; exact trivial)) (by (refine ⟨.row rfl, ?_⟩; refine ⟨.box _ rfl ?_, ?_⟩; refine ⟨.intE (by first | with_reducible rfl | (first | rfl | (rw [List.take_zero, g0]))), ?_⟩; refine ⟨.pvE (by first | with_reducible rfl | (first | rfl | (rw [List.take_zero, g0]))), ?_⟩; (iterate 2 exact trivial))) rfl
    rintro j ⟨hj, hdj, hfj⟩
    by_cases hlj : j < cl.length
    · have hsn := growR_snoc hlj (S, false)
      obtain ⟨c1, c2⟩ := hf.hcl _ (List.getElem_mem hlj)
      generalize growR (cl.take j) (S, false) = q at *
      obtain ⟨s, gr⟩ := q
      dsimp only at hsn hdj hfj ⊢
      have hsl := hdj.len
      have hun := unit_fn cl[j] s (sm_within hf.hv c1)
      rcases statusM_cases cl[j] s with h0 | h1 | h2
      · rw [h0, show unitK 0 = -1 from rfl] at hun
        rw [if_neg (by omega)] at hsn
        have hnx : gr = false → s = S ∧ ∀ d ∈ cl.take (j + 1), (statusM d S).1 = 0 := fun g => by
          obtain ⟨e, hal⟩ := hfj g
          refine ⟨e, fun d hd => ?_⟩
          rw [take_succ_get hlj] at hd
          rcases List.mem_append.1 hd with hd | hd
          · exact hal d hd
          · simp at hd; subst hd; rw [← e]; exact h0
        (refine zo ?_; refine zq ?_; refine zm ?_; refine AOps.fieldAddrN 24 1 1 rfl rfl rfl rfl ?_; refine zb ?_; refine zn ?_; refine zs ?_; refine zd ?_; refine zc ?_; refine AW.skip ?_; refine thenD_n ?_; refine zo ?_; refine AW.block ?_; refine zq ?_; (conv => rhs; simp only [Nf.all, Nat.reduceBEq, reduceAdd, reduceSub]); refine AOps.fieldAddrN 24 1 1 rfl rfl rfl rfl ?_; refine zb ?_; refine zm ?_; (focus ((with_reducible apply AOps.index_map); (iterate 7 exact rfl); rotate_left; omega)); refine zr ?_; refine AOps.move_own rfl rfl rfl ?_; (with_reducible apply AOps.call (hun)); (repeat (first | exact .nil | (refine .cons rfl ?_ ?_; (first | exact .pv _ | exact .own _ _ _ _ rfl | exact .nil _ | exact .any _ | exact .rptr _ | (refine .aggL ?_; repeat (first | exact .nil | (refine .cons ?_ ?_; (first | exact .pv _ | exact .own _ _ _ _ rfl | exact .nil _)))))))); exact rfl; exact rfl; exact (fun h_ => by cases h_); refine AOps.move_tup rfl rfl rfl ?_; (iterate 2 refine AOps.extract rfl rfl rfl rfl ?_); (iterate 2 refine za ?_); refine zd ?_; refine zo ?_; refine zq ?_; (conv => rhs; simp only [Nf.all, Nat.reduceBEq, reduceAdd, reduceSub]); refine zm ?_; refine AOps.eql rfl rfl rfl rfl rfl ?_; refine zd ?_; refine AW.cond_lf rfl rfl ?_; refine AW.skip ?_; refine thenD_n ?_; refine zq ?_; (conv => rhs; simp only [Nf.all, Nat.reduceBEq, reduceAdd, reduceSub]); refine zm ?_; refine AOps.eql rfl rfl rfl rfl rfl ?_; refine zd ?_; refine AW.cond_lf rfl rfl ?_; refine AW.skip ?_; refine inBlockD_n ?_; refine thenD_n ?_; refine AW.region ?_; (conv => rhs; simp only [Nf.all, Nat.reduceBEq, reduceAdd, reduceSub]); refine zm ?_; refine AOps.add rfl rfl rfl rfl rfl (by omega) ?_; refine za ?_; refine zd ?_)
        exact ⟨j + 1, ⟨by omega, by rw [hsn]; exact hdj, by rw [hsn]; exact hnx⟩, by omega, weak rfl (by (refine ⟨.intE (by first | with_reducible rfl | (first | rfl | (rw [hsn]))), ?_⟩; refine ⟨.boolE (by first | with_reducible rfl | (first | rfl | (rw [hsn]))), ?_⟩; refine ⟨.ownE (by first | with_reducible rfl | (first | rfl | (rw [hsn]))) rfl, ?_⟩; refine ⟨.intE (by first | with_reducible rfl | (first | rfl | (rw [hsn]))), ?_⟩; refine ⟨.eq rfl rfl, ?_⟩; exact trivial)) (by (refine ⟨.row rfl, ?_⟩; refine ⟨.box _ rfl ?_, ?_⟩; refine ⟨.intE (by first | with_reducible rfl | (first | rfl | (rw [hsn]))), ?_⟩; refine ⟨.pvE (by first | with_reducible rfl | (first | rfl | (rw [hsn]))), ?_⟩; (iterate 2 exact trivial))) rfl⟩
      · rw [h1, show unitK 1 = 0 from rfl] at hun
        rw [hyes hdj (List.getElem_mem hlj) h1]
        (refine zo ?_; refine zq ?_; refine zm ?_; refine AOps.fieldAddrN 24 1 1 rfl rfl rfl rfl ?_; refine zb ?_; refine zn ?_; refine zs ?_; refine zd ?_; refine zc ?_; refine AW.skip ?_; refine thenD_n ?_; refine zo ?_; refine AW.block ?_; refine zq ?_; (conv => rhs; simp only [Nf.all, Nat.reduceBEq, reduceAdd, reduceSub]); refine AOps.fieldAddrN 24 1 1 rfl rfl rfl rfl ?_; refine zb ?_; refine zm ?_; (focus ((with_reducible apply AOps.index_map); (iterate 7 exact rfl); rotate_left; omega)); refine zr ?_; refine AOps.move_own rfl rfl rfl ?_; (with_reducible apply AOps.call (hun)); (repeat (first | exact .nil | (refine .cons rfl ?_ ?_; (first | exact .pv _ | exact .own _ _ _ _ rfl | exact .nil _ | exact .any _ | exact .rptr _ | (refine .aggL ?_; repeat (first | exact .nil | (refine .cons ?_ ?_; (first | exact .pv _ | exact .own _ _ _ _ rfl | exact .nil _)))))))); exact rfl; exact rfl; exact (fun h_ => by cases h_); refine AOps.move_tup rfl rfl rfl ?_; (iterate 2 refine AOps.extract rfl rfl rfl rfl ?_); (iterate 2 refine za ?_); refine zd ?_; refine zo ?_; refine zq ?_; (conv => rhs; simp only [Nf.all, Nat.reduceBEq, reduceAdd, reduceSub]); refine zm ?_; refine AOps.eql rfl rfl rfl rfl rfl ?_; refine zd ?_; refine AW.cond_lt rfl rfl ?_; refine zq ?_; (conv => rhs; simp only [Nf.all, Nat.reduceBEq, reduceAdd, reduceSub]); refine za ?_; refine zd ?_; refine AW.ret ?_; refine thenD_ret ?_; refine inBlockD_ret ?_; (iterate 2 refine thenD_ret ?_); refine inBlockD_ret ?_; refine thenD_ret ?_; refine inBlockD_ret ?_; (iterate 2 refine thenD_ret ?_); refine inBlockD_ret ?_; refine thenD_ret ?_)
        (apply ends_ret; (exact Res.one (.tmp rfl rfl)); (refine Le.litB ?_; (rfl)))
      · have hd2 := hstep hdj (List.getElem_mem hlj) h2
        rw [h2, show unitK 2 = 1 from rfl] at hun
        rw [if_pos h2] at hsn
        generalize (statusM cl[j] s).2 = x at *
        (refine zo ?_; refine zq ?_; refine zm ?_; refine AOps.fieldAddrN 24 1 1 rfl rfl rfl rfl ?_; refine zb ?_; refine zn ?_; refine zs ?_; refine zd ?_; refine zc ?_; refine AW.skip ?_; refine thenD_n ?_; refine zo ?_; refine AW.block ?_; refine zq ?_; (conv => rhs; simp only [Nf.all, Nat.reduceBEq, reduceAdd, reduceSub]); refine AOps.fieldAddrN 24 1 1 rfl rfl rfl rfl ?_; refine zb ?_; refine zm ?_; (focus ((with_reducible apply AOps.index_map); (iterate 7 exact rfl); rotate_left; omega)); refine zr ?_; refine AOps.move_own rfl rfl rfl ?_; (with_reducible apply AOps.call (hun)); (repeat (first | exact .nil | (refine .cons rfl ?_ ?_; (first | exact .pv _ | exact .own _ _ _ _ rfl | exact .nil _ | exact .any _ | exact .rptr _ | (refine .aggL ?_; repeat (first | exact .nil | (refine .cons ?_ ?_; (first | exact .pv _ | exact .own _ _ _ _ rfl | exact .nil _)))))))); exact rfl; exact rfl; exact (fun h_ => by cases h_); refine AOps.move_tup rfl rfl rfl ?_; (iterate 2 refine AOps.extract rfl rfl rfl rfl ?_); (iterate 2 refine za ?_); refine zd ?_; refine zo ?_; refine zq ?_; (conv => rhs; simp only [Nf.all, Nat.reduceBEq, reduceAdd, reduceSub]); refine zm ?_; refine AOps.eql rfl rfl rfl rfl rfl ?_; refine zd ?_; refine AW.cond_lf rfl rfl ?_; refine AW.skip ?_; refine thenD_n ?_; refine zq ?_; (conv => rhs; simp only [Nf.all, Nat.reduceBEq, reduceAdd, reduceSub]); refine zm ?_; refine AOps.eql rfl rfl rfl rfl rfl ?_; refine zd ?_; refine AW.cond_lt rfl rfl ?_; refine zq ?_; (conv => rhs; simp only [Nf.all, Nat.reduceBEq, reduceAdd, reduceSub]); refine AOps.move_own rfl rfl rfl ?_; refine zm ?_; refine AOps.bs1 rfl rfl rfl rfl rfl rfl rfl rfl ?_; (conv => rhs; simp only [Nf.all, Nat.reduceBEq, reduceAdd, reduceSub]); (with_reducible apply AOps.appendS); exact rfl; (first | exact .pv rfl | exact .own rfl | exact .nil rfl); (iterate 9 exact rfl); (first | omega | (simp only [List.length_map, List.length_append, List.length_cons, List.length_nil, List.length_drop, List.length_take, chunk_len]; omega)); (conv => rhs; simp only [Nf.all, Nat.reduceBEq, reduceAdd, reduceSub]); refine AOps.assign_own rfl rfl rfl ?_; refine zd ?_; refine AW.region ?_; (conv => rhs; simp only [Nf.all, Nat.reduceBEq, reduceAdd, reduceSub]); refine za ?_; refine AOps.nil ?_; refine inBlockD_n ?_; refine thenD_n ?_; refine AW.region ?_; (conv => rhs; simp only [Nf.all, Nat.reduceBEq, reduceAdd, reduceSub]); refine zm ?_; refine AOps.add rfl rfl rfl rfl rfl (by omega) ?_; refine za ?_; refine zd ?_)
        exact ⟨j + 1, ⟨by omega, by rw [hsn]; exact hd2.le (by show n + 1 ≤ _; omega), by rw [hsn]; intro h; cases h⟩, by omega, weak rfl (by (refine ⟨.intE (by first | with_reducible rfl | (first | rfl | (rw [hsn, List.map_append]; rfl) | (rw [hsn]))), ?_⟩; refine ⟨.boolE (by first | with_reducible rfl | (first | rfl | (rw [hsn, List.map_append]; rfl) | (rw [hsn]))), ?_⟩; refine ⟨.ownE (by first | with_reducible rfl | (first | rfl | (rw [hsn, List.map_append]; rfl) | (rw [hsn]))) rfl, ?_⟩; refine ⟨.intE (by first | with_reducible rfl | (first | rfl | (rw [hsn, List.map_append]; rfl) | (rw [hsn]))), ?_⟩; refine ⟨.eq rfl rfl, ?_⟩; exact trivial)) (by (refine ⟨.row rfl, ?_⟩; refine ⟨.box _ rfl ?_, ?_⟩; refine ⟨.intE (by first | with_reducible rfl | (first | rfl | (rw [hsn, List.map_append]; rfl) | (rw [hsn]))), ?_⟩; refine ⟨.pvE (by first | with_reducible rfl | (first | rfl | (rw [hsn, List.map_append]; rfl) | (rw [hsn]))), ?_⟩; (iterate 2 exact trivial))) rfl⟩
    · rw [take_all (l := cl) (by omega)] at hdj hfj ⊢
      generalize growR cl (S, false) = q at *
      obtain ⟨s, gr⟩ := q
      dsimp only at hin hdj hfj ⊢
      cases gr with
      | true =>
        rw [← hin] at hdj ⊢
        (refine zo ?_; refine zq ?_; refine zm ?_; refine AOps.fieldAddrN 24 1 1 rfl rfl rfl rfl ?_; refine zb ?_; refine zn ?_; refine zs ?_; refine zd ?_; refine zk ?_; refine AW.exit ?_; (iterate 2 refine thenD_exit ?_); refine inBlockD_exit ?_; refine thenD_n ?_; refine zq ?_; (conv => rhs; simp only [Nf.all, Nat.reduceBEq, reduceAdd, reduceSub]); refine zm ?_; refine AOps.not rfl rfl rfl ?_; refine zd ?_; refine AW.cond_lf rfl rfl ?_; refine AW.skip ?_; refine inBlockD_n ?_; refine thenD_n ?_; refine AW.region ?_; (conv => rhs; simp only [Nf.all, Nat.reduceBEq, reduceAdd, reduceSub]); refine zm ?_; refine AOps.add rfl rfl rfl rfl rfl (by omega) ?_; refine za ?_; refine zd ?_)
        exact ⟨n + 1, ⟨by omega, by simpa using hdj⟩, by omega, weak rfl (by (first | (refine ⟨.eq rfl rfl, ?_⟩; refine ⟨.nilown _ _ _ rfl rfl, ?_⟩; (iterate 2 refine ⟨.eq rfl rfl, ?_⟩); exact trivial) | (refine ⟨.eq rfl rfl, ?_⟩; (iterate 2 refine ⟨.eq rfl rfl, ?_⟩); exact trivial))) (by (first | (refine ⟨.newrow rfl, ?_⟩; refine ⟨.box _ rfl ?_, ?_⟩; (iterate 2 refine ⟨.eq rfl rfl, ?_⟩); (iterate 2 exact trivial)) | (refine ⟨.row rfl, ?_⟩; refine ⟨.box _ rfl ?_, ?_⟩; (iterate 2 refine ⟨.eq rfl rfl, ?_⟩); (iterate 2 exact trivial)))) rfl⟩
      | false =>
        obtain ⟨e, hal⟩ := hfj rfl
        rw [hno hd hal]
        (refine zo ?_; refine zq ?_; refine zm ?_; refine AOps.fieldAddrN 24 1 1 rfl rfl rfl rfl ?_; refine zb ?_; refine zn ?_; refine zs ?_; refine zd ?_; refine zk ?_; refine AW.exit ?_; (iterate 2 refine thenD_exit ?_); refine inBlockD_exit ?_; refine thenD_n ?_; refine zq ?_; (conv => rhs; simp only [Nf.all, Nat.reduceBEq, reduceAdd, reduceSub]); refine zm ?_; refine AOps.not rfl rfl rfl ?_; refine zd ?_; refine AW.cond_lt rfl rfl ?_; refine zq ?_; (conv => rhs; simp only [Nf.all, Nat.reduceBEq, reduceAdd, reduceSub]); refine za ?_; refine zd ?_; refine AW.ret ?_; refine inBlockD_ret ?_; (iterate 2 refine thenD_ret ?_); refine inBlockD_ret ?_; refine thenD_ret ?_)
        (apply ends_ret; (exact Res.one (.tmp rfl rfl)); (refine Le.litB ?_; (rfl)))
  · have := hd.len
    omega
end Go.Ab
