/- Chapter 20, the reference's levels, joined. -/
import Derived.Test.YthahkdmlcgfpcaaAcG
set_option linter.unusedSimpArgs false
set_option linter.unusedVariables false
namespace Go.Ab
open Go Go.Proofs
attribute [local irreducible] AW AOps thenD inBlockD

theorem statusFrom_mem (trail : List Int) : ∀ (c : List Int) (left : Int), (statusFrom trail c left).2 = left ∨ (statusFrom trail c left).2 ∈ c ∨ (statusFrom trail c left).2 = 0 := by
  intro c
  induction c with
  | nil => intro left; unfold statusFrom; split <;> simp_all
  | cons x c ih =>
    intro left
    unfold statusFrom
    split
    · simp
    · split
      · rcases ih left with h | h | h
        · exact .inl h
        · exact .inr (.inl (by simp [h]))
        · exact .inr (.inr h)
      · rcases ih x with h | h | h
        · exact .inr (.inl (by simp [h]))
        · exact .inr (.inl (by simp [h]))
        · exact .inr (.inr h)
theorem statusM_sm {c trail : List Int} (h : Sm c) : -1000000000000 ≤ (statusM c trail).2 ∧ (statusM c trail).2 ≤ 1000000000000 := by
  rcases statusFrom_mem trail c 0 with h1 | h1 | h1
  · unfold statusM; omega
  · exact h _ h1
  · unfold statusM; omega
/-- what holds of every trail of a run. -/
structure TrI (cl : List (List Int)) (t : Tr) : Prop where
  sm : Sm t.1
  rs : ∀ r ∈ t.2.1, r < cl.length
theorem tri_add {cl : List (List Int)} {t : Tr} (h : TrI cl t) {x : Int} (hx : -1000000000000 ≤ x ∧ x ≤ 1000000000000) : TrI cl (addA t x) := by
  unfold addA
  split
  · exact h
  · refine ⟨fun y hy => ?_, fun r hr => ?_⟩
    · rcases List.mem_append.1 hy with hy | hy
      · exact h.sm y hy
      · simp at hy; subst hy; exact hx
    · rcases List.mem_append.1 hr with hr | hr
      · exact h.rs r hr
      · simp at hr; subst hr; omega
theorem tri_start (cl : List (List Int)) {assume : List Int} (hs : Sm assume) : TrI cl (startM assume) := by
  have : ∀ (l : List Int) (t : Tr), TrI cl t → Sm l → TrI cl (l.foldl addA t) := by
    intro l
    induction l with
    | nil => intro t h _; exact h
    | cons x l ih => intro t h hl; exact ih _ (tri_add h (hl x (by simp))) (fun y hy => hl y (by simp [hy]))
  exact this assume _ ⟨fun x hx => by simp at hx, fun r hr => by simp at hr⟩ hs
theorem tri_step {cl : List (List Int)} {t : Tr} (hcl : ∀ c ∈ cl, Sm c) (h : TrI cl t) : TrI cl (stepM cl t).1 := by
  have : ∀ (l : List (List Int)) (i : Nat), (∀ c ∈ l, Sm c) → i + l.length ≤ cl.length → TrI cl (stepFrom t i l).1 := by
    intro l
    induction l with
    | nil => intro i _ _; exact h
    | cons c l ih =>
      intro i hl hi
      unfold stepFrom
      split
      · exact ⟨h.sm, h.rs⟩
      · split
        · refine ⟨fun y hy => ?_, fun r hr => ?_⟩
          · rcases List.mem_append.1 hy with hy | hy
            · exact h.sm y hy
            · simp at hy; subst hy; exact statusM_sm (hl c (by simp))
          · rcases List.mem_append.1 hr with hr | hr
            · exact h.rs r hr
            · simp only [List.length_cons] at hi; simp at hr; subst hr; omega
        · have := ih (i + 1) (fun c hc => hl c (by simp [hc])) (by simp only [List.length_cons] at hi; omega)
          exact this
  exact this cl 0 hcl (by omega)
theorem tri_run {vars : Int} {cl : List (List Int)} {assume : List Int} (hcl : ∀ c ∈ cl, Sm c) (hs : Sm assume) : TrI cl (runM vars cl assume) := by
  have : ∀ (n : Nat) (t : Tr), TrI cl t → TrI cl (runLoop cl n t) := by
    intro n
    induction n with
    | zero => intro t h; exact h
    | succ n ih => intro t h; unfold runLoop; split; exact ih _ (tri_step hcl h); exact tri_step hcl h
  exact this _ _ (tri_start cl hs)
theorem trok_run {vars : Int} {cl : List (List Int)} {assume : List Int} (hcl : ∀ c ∈ cl, Sm c) (hs : Sm assume) (hv : 0 ≤ vars ∧ vars ≤ 100000) (ha : assume.length ≤ 100000) : TrOk cl (runM vars cl assume) :=
  ⟨even_run _ _ _, (tri_run hcl hs).sm, by have := len_run (vars := vars) (cl := cl) (assume := assume); omega, (tri_run hcl hs).rs⟩

def levF (cl : List (List Int)) (t : Tr) (ks : List Nat) : List Int := (ks.filter fun k => decide (0 ≤ t.2.1.getD k 0)).map fun k => ((onF cl t t.1.length k).length : Int)
def refLevM (vars : Int) (cl : List (List Int)) (assume : List Int) : List Int :=
  if contraM assume = true then [] else levF cl (runM vars cl assume) (List.range (runM vars cl assume).1.length)
theorem levF_succ (cl : List (List Int)) (t : Tr) (k : Nat) : levF cl t (List.range (k + 1)) = levF cl t (List.range k) ++ if 0 ≤ t.2.1.getD k 0 then [((onF cl t t.1.length k).length : Int)] else [] := by
  rw [List.range_succ, levF, List.filter_append, List.map_append]
  by_cases h : 0 ≤ t.2.1.getD k 0
  · rw [if_pos h, List.filter_cons_of_pos (by exact decide_eq_true h)]; rfl
  · rw [if_neg h, List.filter_cons_of_neg (by rw [decide_eq_true_iff]; exact h)]; rfl
theorem levF_len (cl : List (List Int)) (t : Tr) (k : Nat) : (levF cl t (List.range k)).length ≤ k := by
  unfold levF
  rw [List.length_map]
  exact Nat.le_trans (List.length_filter_le _ _) (by simp)

set_option maxHeartbeats 2000000 in
theorem refLev_fn (vars : Int) (cl : List (List Int)) (assume : List Int) (hcl : ∀ c ∈ cl, Sm c) (h3 : cl.length ≤ 1000000) (hv : 0 ≤ vars ∧ vars ≤ 100000) (ha : assume.length ≤ 100000) (hs : Sm assume) :
    Fn Try.prog 19 [fml vars cl, .pv (ints assume)] (.pv (ints (refLevM vars cl assume))) := by
  refine Fn.enter (n := 37) Try.func19 rfl rfl rfl rfl rfl (by decide) fun g hro_ hwt_ => ?_; (try (conv => rhs; simp only [Nf.all, Nat.reduceBEq, Nat.reduceAdd, Nat.reduceSub]))
  ((with_reducible apply AW.seq); (with_reducible apply AW.region); (with_reducible apply AOps.box); (iterate 4 exact rfl); (conv => rhs; simp only [Nf.all, Nat.reduceBEq, Nat.reduceAdd, Nat.reduceSub]); (with_reducible apply AOps.assign_pv); (iterate 3 exact rfl); (with_reducible apply AOps.nil); (with_reducible apply thenD_n); (with_reducible apply AW.seq); (with_reducible apply AW.region); (conv => rhs; simp only [Nf.all, Nat.reduceBEq, Nat.reduceAdd, Nat.reduceSub]); (with_reducible apply AOps.move_pv); (iterate 3 exact rfl); (with_reducible apply AOps.call (refContra_fn assume hs)); (repeat (first | exact .nil | (refine .cons rfl ?_ ?_; (first | exact .pv _ | exact .own _ _ _ _ rfl | exact .nil _ | exact .any _ | exact .rptr _ | (refine .aggL ?_; repeat (first | exact .nil | (refine .cons ?_ ?_; (first | exact .pv _ | exact .own _ _ _ _ rfl | exact .nil _)))))))); exact rfl; exact rfl; exact (fun h_ => by cases h_); (with_reducible apply AOps.assign_pv); (iterate 3 exact rfl); (with_reducible apply AOps.nil); (with_reducible apply thenD_n); (with_reducible apply AW.seq); (with_reducible apply AW.seq); (with_reducible apply AW.region); (conv => rhs; simp only [Nf.all, Nat.reduceBEq, Nat.reduceAdd, Nat.reduceSub]); (with_reducible apply AOps.move_pv); (iterate 3 exact rfl); (with_reducible apply AOps.nil); (with_reducible apply thenD_n); (focus ((with_reducible apply AW.cond); exact rfl; exact rfl; all_goals intro hc_)); (with_reducible apply AW.seq); (with_reducible apply AW.region); (conv => rhs; simp only [Nf.all, Nat.reduceBEq, Nat.reduceAdd, Nat.reduceSub]); (with_reducible apply AOps.assign_pv); (iterate 3 exact rfl); (with_reducible apply AOps.nil); (with_reducible apply thenD_n); (with_reducible apply AW.ret); (with_reducible apply thenD_ret); (all_goals skip); rotate_left; (with_reducible apply AW.skip); (with_reducible apply thenD_n); (with_reducible apply AW.seq); (with_reducible apply AW.region); (conv => rhs; simp only [Nf.all, Nat.reduceBEq, Nat.reduceAdd, Nat.reduceSub]); (with_reducible apply AOps.load_ball); (iterate 5 exact rfl); (conv => rhs; simp only [Nf.all, Nat.reduceBEq, Nat.reduceAdd, Nat.reduceSub]); (with_reducible apply AOps.move_pv); (iterate 3 exact rfl); (with_reducible apply AOps.callp (run_fn vars cl assume hcl h3 hv ha)); (repeat (first | exact .nil | (refine .cons rfl ?_ ?_; (first | exact .pv _ | exact .own _ _ _ _ rfl | exact .nil _ | exact .any _ | exact .rptr _ | (refine .aggL ?_; repeat (first | exact .nil | (refine .cons ?_ ?_; (first | exact .pv _ | exact .own _ _ _ _ rfl | exact .nil _)))))))); exact rfl; (with_reducible apply AOps.allocN'); (iterate 4 exact rfl); (conv => rhs; simp only [Nf.all, Nat.reduceBEq, Nat.reduceAdd, Nat.reduceSub]); (with_reducible apply AOps.store_bn); (iterate 9 exact rfl); (with_reducible assumption); (conv => rhs; simp only [Nf.all, Nat.reduceBEq, Nat.reduceAdd, Nat.reduceSub]); (with_reducible apply AOps.nil); (with_reducible apply thenD_n); (with_reducible apply AW.seq); (with_reducible apply AW.region); (with_reducible apply AOps.assign_pv); (iterate 3 exact rfl); (with_reducible apply AOps.nil); (with_reducible apply thenD_n); (with_reducible apply AW.seq); (with_reducible apply AW.seq); (with_reducible apply AW.region); (conv => rhs; simp only [Nf.all, Nat.reduceBEq, Nat.reduceAdd, Nat.reduceSub]); (with_reducible apply AOps.assign_pv); (iterate 3 exact rfl); (with_reducible apply AOps.nil); (with_reducible apply thenD_n); (with_reducible apply AW.block); (all_goals skip); rotate_left)
  · have hp : refLevM vars cl assume = [] := by rw [refLevM, if_pos hc_]
    rw [hp]
    (apply ends_ret; (first | exact Res.one (.tmp rfl rfl) | exact Res.two (.tmp rfl rfl) (.tmp rfl rfl) | exact Res.one (.cell rfl rfl rfl rfl) | exact Res.two (.cell rfl rfl rfl rfl) (.tmp rfl rfl) | exact Res.three (.tmp rfl rfl) (.tmp rfl rfl) (.tmp rfl rfl) | exact Res.one (.cell1 rfl rfl rfl rfl)); repeat' (first | exact Le.any _ | exact LeL.nil | (with_reducible exact Le.pv _) | refine Le.aggL ?_ | refine Le.tupL ?_ | refine LeL.cons ?_ ?_ | exact Le.nil _ | exact Le.own _ _ _ _ rfl | exact Le.rptr _ | (refine Le.ownE ?_; rfl) | (refine Le.pvE ?_; rfl) | (refine Le.litI ?_; rfl) | (refine Le.litB ?_; rfl) | exact Le.pv _))
  have hp : refLevM vars cl assume = levF cl (runM vars cl assume) (List.range (runM vars cl assume).1.length) := by rw [refLevM, if_neg (by rw [hc_]; simp)]
  have hok := trok_run hcl hs hv ha
  rw [hp]
  generalize runM vars cl assume = t at hok ⊢
  have hev := hok.even
  have hln := hok.len
  refine AW.loop (fun (k : Nat) => { n := 37, env := [(2, .ptr 0 0), (6, .ptr 1 0), (7, .own 2 3 1 ((levF cl t (List.range k)).map encI)), (8, litI k)], objs := [(0, some (.box [litI vars, .pv (intss cl)])), (1, some (.box [.pv (ints t.1), .pv (ints t.2.1), litI t.2.2])), (2, some .row)], nx := 3 })
    (fun k => k ≤ t.1.length) (fun k => t.1.length - k) 0 ?_ ?_ ?_
  · simp
  · exact weak rfl (by repeat (first | exact trivial | refine ⟨.any _, ?_⟩ | refine ⟨.eq rfl rfl, ?_⟩ | refine ⟨.nilown _ _ _ rfl rfl, ?_⟩ | refine ⟨.nilpv _, ?_⟩ | refine ⟨.freeze rfl, ?_⟩ | refine ⟨.fbox rfl rfl (by repeat (first | exact CVs.nil | refine .cons (.any _) ?_ | refine .cons (.pv _) ?_ | refine .cons (.own rfl rfl) ?_ | refine .cons (.nil _) ?_)), ?_⟩)) (by repeat (first | exact trivial | refine ⟨.row rfl, ?_⟩ | refine ⟨.newrow rfl, ?_⟩ | refine ⟨.box _ rfl (by repeat (first | exact trivial | refine ⟨.any _, ?_⟩ | refine ⟨.eq rfl rfl, ?_⟩ | refine ⟨.nilown _ _ _ rfl rfl, ?_⟩ | refine ⟨.nilpv _, ?_⟩ | refine ⟨.freeze rfl, ?_⟩ | refine ⟨.fbox rfl rfl (by repeat (first | exact CVs.nil | refine .cons (.any _) ?_ | refine .cons (.pv _) ?_ | refine .cons (.own rfl rfl) ?_ | refine .cons (.nil _) ?_)), ?_⟩)), ?_⟩ | refine ⟨.loop rfl, ?_⟩ | refine ⟨.set rfl, ?_⟩ | refine ⟨.it rfl, ?_⟩)) rfl
  rintro k hk
  have hfl := levF_len cl t k
  by_cases hlt : k < t.1.length
  · have hlt2 : k < t.2.1.length := by rw [hev]; exact hlt
    have htk := levF_succ cl t k
    have e1 : t.2.1.getD k 0 = t.2.1[k] := by rw [List.getD_eq_getElem?_getD, List.getElem?_eq_getElem hlt2]; rfl
    rw [e1] at htk
    ((with_reducible apply AW.seq); (with_reducible apply AW.seq); (with_reducible apply AW.region); (with_reducible apply AOps.move_pv); (iterate 3 exact rfl); (with_reducible apply AOps.fieldAddrN 55 0 0); (iterate 4 exact rfl); (with_reducible apply AOps.load_b1); (iterate 6 exact rfl); (with_reducible apply AOps.len_map); (iterate 4 exact rfl); (with_reducible apply AOps.lss); (iterate 5 exact rfl); (with_reducible apply AOps.nil); (with_reducible apply thenD_n); (with_reducible apply AW.condY); exact rfl; exact rfl; (first | omega | decide); (with_reducible apply AW.skip); (with_reducible apply thenD_n); (with_reducible apply AW.seq); (with_reducible apply AW.block); (with_reducible apply AW.seq); (with_reducible apply AW.region); (conv => rhs; simp only [Nf.all, Nat.reduceBEq, Nat.reduceAdd, Nat.reduceSub]); (with_reducible apply AOps.fieldAddrN 55 1 1); (iterate 4 exact rfl); (with_reducible apply AOps.load_b1); (iterate 6 exact rfl); (with_reducible apply AOps.move_pv); (iterate 3 exact rfl); (focus ((with_reducible apply AOps.index_map); (iterate 7 exact rfl); rotate_left; omega)); (with_reducible apply AOps.load_r1); (iterate 4 exact rfl); (with_reducible apply AOps.geq); (iterate 5 exact rfl); (with_reducible apply AOps.nil); (with_reducible apply thenD_n); (focus ((with_reducible apply AW.condD); exact rfl; exact rfl; all_goals intro hc_)); (with_reducible apply AW.region); (conv => rhs; simp only [Nf.all, Nat.reduceBEq, Nat.reduceAdd, Nat.reduceSub]); (with_reducible apply AOps.move_own); (iterate 3 exact rfl); (with_reducible apply AOps.load_ball); (iterate 5 exact rfl); (conv => rhs; simp only [Nf.all, Nat.reduceBEq, Nat.reduceAdd, Nat.reduceSub]); (with_reducible apply AOps.load_ball); (iterate 5 exact rfl); (conv => rhs; simp only [Nf.all, Nat.reduceBEq, Nat.reduceAdd, Nat.reduceSub]); (with_reducible apply AOps.move_pv); (iterate 3 exact rfl); (with_reducible apply AOps.callp (on_fn vars cl t hcl hok t.1.length k hlt hlt)); (repeat (first | exact .nil | (refine .cons rfl ?_ ?_; (first | exact .pv _ | exact .own _ _ _ _ rfl | exact .nil _ | exact .any _ | exact .rptr _ | (refine .aggL ?_; repeat (first | exact .nil | (refine .cons ?_ ?_; (first | exact .pv _ | exact .own _ _ _ _ rfl | exact .nil _)))))))); exact rfl; (with_reducible apply AOps.len_map); (iterate 4 exact rfl); (with_reducible apply AOps.bs1); (iterate 8 exact rfl); (conv => rhs; simp only [Nf.all, Nat.reduceBEq, Nat.reduceAdd, Nat.reduceSub]); (with_reducible apply AOps.appendS); exact rfl; (first | exact .pv rfl | exact .own rfl | exact .nil rfl); (iterate 9 exact rfl); (first | omega | (simp only [List.length_map, List.length_append, List.length_cons, List.length_nil, chunk_len]; omega)); (conv => rhs; simp only [Nf.all, Nat.reduceBEq, Nat.reduceAdd, Nat.reduceSub]); (with_reducible apply AOps.assign_own); (iterate 3 exact rfl); (with_reducible apply AOps.nil); (with_reducible apply inBlockD_n); (with_reducible apply thenD_n); (with_reducible apply AW.region); (conv => rhs; simp only [Nf.all, Nat.reduceBEq, Nat.reduceAdd, Nat.reduceSub]); (with_reducible apply AOps.move_pv); (iterate 3 exact rfl); (with_reducible apply AOps.add); (iterate 5 exact rfl); omega; (with_reducible apply AOps.assign_pv); (iterate 3 exact rfl); (with_reducible apply AOps.nil); (with_reducible apply thenD_n); (all_goals skip); rotate_left; (with_reducible apply AW.skip); (with_reducible apply inBlockD_n); (with_reducible apply thenD_n); (with_reducible apply AW.region); (conv => rhs; simp only [Nf.all, Nat.reduceBEq, Nat.reduceAdd, Nat.reduceSub]); (with_reducible apply AOps.move_pv); (iterate 3 exact rfl); (with_reducible apply AOps.add); (iterate 5 exact rfl); omega; (with_reducible apply AOps.assign_pv); (iterate 3 exact rfl); (with_reducible apply AOps.nil); (with_reducible apply thenD_n); (all_goals skip); rotate_left)
    · rw [if_pos hc_] at htk
      exact ⟨k + 1, by omega, by omega, weak rfl (by repeat (first | exact trivial | refine ⟨.any _, ?_⟩ | refine ⟨.ownE (by first | with_reducible rfl | (rw [htk, List.map_append]; rfl)) rfl, ?_⟩ | refine ⟨.intE (by first | with_reducible rfl | (rw [htk, List.map_append]; rfl)), ?_⟩ | refine ⟨.pvE (by first | with_reducible rfl | (rw [htk, List.map_append]; rfl)), ?_⟩ | refine ⟨.boolE (by first | with_reducible rfl | (rw [htk, List.map_append]; rfl)), ?_⟩ | refine ⟨.freezeE rfl (by first | with_reducible rfl | (rw [htk, List.map_append]; rfl)), ?_⟩ | refine ⟨.nilown _ _ _ rfl rfl, ?_⟩ | refine ⟨.nilownE (by rw [htk, List.map_append]; rfl) rfl rfl, ?_⟩ | refine ⟨.eq rfl rfl, ?_⟩ | refine ⟨.nilown _ _ _ rfl rfl, ?_⟩ | refine ⟨.nilpv _, ?_⟩ | refine ⟨.freeze rfl, ?_⟩ | refine ⟨.fbox rfl rfl (by repeat (first | exact CVs.nil | refine .cons (.any _) ?_ | refine .cons (.pv _) ?_ | refine .cons (.own rfl rfl) ?_ | refine .cons (.nil _) ?_)), ?_⟩)) (by repeat (first | exact trivial | refine ⟨.row rfl, ?_⟩ | refine ⟨.newrow rfl, ?_⟩ | refine ⟨.box _ rfl (by repeat (first | exact trivial | refine ⟨.any _, ?_⟩ | refine ⟨.ownE (by first | with_reducible rfl | (rw [htk, List.map_append]; rfl)) rfl, ?_⟩ | refine ⟨.intE (by first | with_reducible rfl | (rw [htk, List.map_append]; rfl)), ?_⟩ | refine ⟨.pvE (by first | with_reducible rfl | (rw [htk, List.map_append]; rfl)), ?_⟩ | refine ⟨.boolE (by first | with_reducible rfl | (rw [htk, List.map_append]; rfl)), ?_⟩ | refine ⟨.freezeE rfl (by first | with_reducible rfl | (rw [htk, List.map_append]; rfl)), ?_⟩ | refine ⟨.nilown _ _ _ rfl rfl, ?_⟩ | refine ⟨.nilownE (by rw [htk, List.map_append]; rfl) rfl rfl, ?_⟩ | refine ⟨.eq rfl rfl, ?_⟩ | refine ⟨.nilown _ _ _ rfl rfl, ?_⟩ | refine ⟨.nilpv _, ?_⟩ | refine ⟨.freeze rfl, ?_⟩ | refine ⟨.fbox rfl rfl (by repeat (first | exact CVs.nil | refine .cons (.any _) ?_ | refine .cons (.pv _) ?_ | refine .cons (.own rfl rfl) ?_ | refine .cons (.nil _) ?_)), ?_⟩)), ?_⟩ | refine ⟨.loop rfl, ?_⟩ | refine ⟨.set rfl, ?_⟩ | refine ⟨.it rfl, ?_⟩ | refine ⟨.setE rfl (by rw [htk, List.map_append]; rfl), ?_⟩ | refine ⟨.set0 rfl (by rw [htk, List.map_append]; rfl), ?_⟩)) rfl⟩
    · rw [if_neg hc_, List.append_nil] at htk
      exact ⟨k + 1, by omega, by omega, weak rfl (by repeat (first | exact trivial | refine ⟨.any _, ?_⟩ | refine ⟨.ownE (by first | with_reducible rfl | (rw [htk])) rfl, ?_⟩ | refine ⟨.intE (by first | with_reducible rfl | (rw [htk])), ?_⟩ | refine ⟨.pvE (by first | with_reducible rfl | (rw [htk])), ?_⟩ | refine ⟨.boolE (by first | with_reducible rfl | (rw [htk])), ?_⟩ | refine ⟨.freezeE rfl (by first | with_reducible rfl | (rw [htk])), ?_⟩ | refine ⟨.nilown _ _ _ rfl rfl, ?_⟩ | refine ⟨.nilownE (by rw [htk]) rfl rfl, ?_⟩ | refine ⟨.eq rfl rfl, ?_⟩ | refine ⟨.nilown _ _ _ rfl rfl, ?_⟩ | refine ⟨.nilpv _, ?_⟩ | refine ⟨.freeze rfl, ?_⟩ | refine ⟨.fbox rfl rfl (by repeat (first | exact CVs.nil | refine .cons (.any _) ?_ | refine .cons (.pv _) ?_ | refine .cons (.own rfl rfl) ?_ | refine .cons (.nil _) ?_)), ?_⟩)) (by repeat (first | exact trivial | refine ⟨.row rfl, ?_⟩ | refine ⟨.newrow rfl, ?_⟩ | refine ⟨.box _ rfl (by repeat (first | exact trivial | refine ⟨.any _, ?_⟩ | refine ⟨.ownE (by first | with_reducible rfl | (rw [htk])) rfl, ?_⟩ | refine ⟨.intE (by first | with_reducible rfl | (rw [htk])), ?_⟩ | refine ⟨.pvE (by first | with_reducible rfl | (rw [htk])), ?_⟩ | refine ⟨.boolE (by first | with_reducible rfl | (rw [htk])), ?_⟩ | refine ⟨.freezeE rfl (by first | with_reducible rfl | (rw [htk])), ?_⟩ | refine ⟨.nilown _ _ _ rfl rfl, ?_⟩ | refine ⟨.nilownE (by rw [htk]) rfl rfl, ?_⟩ | refine ⟨.eq rfl rfl, ?_⟩ | refine ⟨.nilown _ _ _ rfl rfl, ?_⟩ | refine ⟨.nilpv _, ?_⟩ | refine ⟨.freeze rfl, ?_⟩ | refine ⟨.fbox rfl rfl (by repeat (first | exact CVs.nil | refine .cons (.any _) ?_ | refine .cons (.pv _) ?_ | refine .cons (.own rfl rfl) ?_ | refine .cons (.nil _) ?_)), ?_⟩)), ?_⟩ | refine ⟨.loop rfl, ?_⟩ | refine ⟨.set rfl, ?_⟩ | refine ⟨.it rfl, ?_⟩ | refine ⟨.setE rfl (by rw [htk]), ?_⟩ | refine ⟨.set0 rfl (by rw [htk]), ?_⟩)) rfl⟩
  · ((with_reducible apply AW.seq); (with_reducible apply AW.seq); (with_reducible apply AW.region); (with_reducible apply AOps.move_pv); (iterate 3 exact rfl); (with_reducible apply AOps.fieldAddrN 55 0 0); (iterate 4 exact rfl); (with_reducible apply AOps.load_b1); (iterate 6 exact rfl); (with_reducible apply AOps.len_map); (iterate 4 exact rfl); (with_reducible apply AOps.lss); (iterate 5 exact rfl); (with_reducible apply AOps.nil); (with_reducible apply thenD_n); (with_reducible apply AW.condN); exact rfl; exact rfl; (first | omega | decide); (with_reducible apply AW.exit); (with_reducible apply thenD_exit); (with_reducible apply thenD_exit); (with_reducible apply inBlockD_exit); (with_reducible apply thenD_n); (with_reducible apply AW.seq); (with_reducible apply AW.region); (conv => rhs; simp only [Nf.all, Nat.reduceBEq, Nat.reduceAdd, Nat.reduceSub]); (with_reducible apply AOps.move_own); (iterate 3 exact rfl); (with_reducible apply AOps.assign_own); (iterate 3 exact rfl); (with_reducible apply AOps.nil); (with_reducible apply thenD_n); (with_reducible apply AW.ret))
    have hall : k = t.1.length := by omega
    (apply ends_ret; (first | exact Res.one (.tmp rfl rfl) | exact Res.two (.tmp rfl rfl) (.tmp rfl rfl) | exact Res.one (.cell rfl rfl rfl rfl) | exact Res.two (.cell rfl rfl rfl rfl) (.tmp rfl rfl) | exact Res.three (.tmp rfl rfl) (.tmp rfl rfl) (.tmp rfl rfl) | exact Res.one (.cell1 rfl rfl rfl rfl)); repeat' (first | exact Le.any _ | exact LeL.nil | (with_reducible exact Le.pv _) | refine Le.aggL ?_ | refine Le.tupL ?_ | refine LeL.cons ?_ ?_ | exact Le.nil _ | exact Le.own _ _ _ _ rfl | exact Le.rptr _ | (refine Le.ownE ?_; rw [hall]) | (refine Le.pvE ?_; rw [hall]) | (refine Le.litI ?_; rw [hall]) | (refine Le.litB ?_; rw [hall]) | exact Le.pv _))
end Go.Ab
