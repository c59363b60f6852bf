/- Chapter 19: the needed gates, in order. -/
import Derived.Test.YtbkjdmjiecncgaaDoorAnC3
import Derived.Test.YtbkjdmjiecncgaaDoorAbL2
import Derived.Test.YtbkjdmjiecncgaaDoorAnSP
set_option linter.unusedSimpArgs false
set_option linter.unusedVariables false
namespace Go.Ab
open Go Go.Proofs
open Nat (reduceAdd reduceSub)
set_option maxRecDepth 20000
set_option maxHeartbeats 4000000
attribute [local irreducible] AW AOps thenD inBlockD AR iterEnds roundEndsN inlEnds noGotoD EndsX canon sortL
theorem nodup_lt (n : Nat) : ∀ {l : List Nat}, l.Nodup → (∀ x ∈ l, x < n) → l.length ≤ n := by
  induction n with
  | zero =>
    intro l _ h
    cases l with
    | nil => exact Nat.le_refl _
    | cons x l => exact absurd (h x (by simp)) (by omega)
  | succ n ih =>
    intro l h1 h2
    have h3 : (l.erase n).length ≤ n := ih (h1.erase n) fun x hx => by
      have h4 := (List.Nodup.mem_erase_iff h1).1 hx
      have := h2 x h4.2
      omega
    by_cases hn : n ∈ l
    · rw [List.length_erase_of_mem hn] at h3; omega
    · rw [List.erase_of_not_mem hn] at h3; omega
theorem AW.gmap (id t s i m : Nat) {P : Program} {g : Ghost} {δ : DS} {Q : Exit → DS → Prop} {b : Bool} {arr : Array Oper} {l : List Int} {p : PV} (ht : δ.get t = .ptr i 0) (hs : δ.get s = .pv p) (hi : δ.ob i = some (.box [.mapr m])) (hm : δ.ob m = some (.mp (mpI (setI l)))) (hne : Nat.beq i m = false) (hx : Nat.blt i δ.nx = true)
    {cc : Code} (hK : AW P g ((Code.region id arr b).seq cc) Q { n := δ.n, env := [(t, .ptr i 0), (s, .pv p)], objs := [(i, some (.box [.pv (.mp (setP l))]))], nx := δ.nx }) : AW P g ((Code.region id arr b).seq cc) Q δ :=
  AW.weak (δ' := { n := δ.n, env := [(t, .ptr i 0), (s, .pv p)], objs := [(i, some (.box [.pv (.mp (setP l))]))], nx := δ.nx }) (Go.Ab.weak rfl ⟨by
    rw [ht]
    refine .eq rfl ?_
    show DS.lbB _ i = true
    unfold DS.lbB DS.ob
    show (match lookOb [(i, some (Ob.box [.pv (.mp (setP l))]))] i with | some (.box _) => true | some (.mp _) => true | some (.mpl _ _ _) => true | some (.it _ _) => true | some (.loop _ _ _ _ _ _) => true | _ => false) = true
    rw [lookOb_cons, if_pos rfl], by rw [hs]; exact .eq rfl rfl, trivial⟩ ⟨.box _ hi ⟨WV.fset hm (by
      show lookOb [(i, some (Ob.box [.pv (.mp (setP l))]))] m = none
      unfold lookOb
      rw [hne]; rfl), trivial⟩, trivial⟩ (by simp only [nxB, hx, Bool.true_and])) hK
theorem visit_nodup {gs : List GateM} (hc : CirOk gs) {r : Int} (hr : RefOk gs r) : (visitM gs gs.length [] (r / 2).toNat).Nodup := by
  unfold RefOk at hr
  exact (visit_ok hc gs.length [] (r / 2).toNat (by omega)).nodup List.nodup_nil
theorem visit_small {gs : List GateM} (hc : CirOk gs) {r : Int} (hr : RefOk gs r) : (visitM gs gs.length [] (r / 2).toNat).length ≤ gs.length := by
  have hn := visit_nodup hc hr
  unfold RefOk at hr
  have v := visit_ok hc gs.length [] (r / 2).toNat (by omega)
  generalize visitM gs gs.length [] (r / 2).toNat = m at v hn
  have h1 : (m.map Int.toNat).Nodup := by
    unfold List.Nodup at hn ⊢
    rw [List.pairwise_map]
    refine hn.imp_of_mem fun {a b} ha hb hne e => hne ?_
    rcases v.and a ha with h | ⟨h1, _, _⟩
    · cases h
    · rcases v.and b hb with h | ⟨h2, _, _⟩
      · cases h
      · omega
  have := nodup_lt gs.length h1 (by
    intro x hx
    obtain ⟨z, hz, rfl⟩ := List.mem_map.1 hx
    rcases v.and z hz with h | ⟨h1, h2, _⟩
    · cases h
    · omega)
  simpa using this
theorem sort_canon {T J : List Int} (hn : T.Nodup) (h : ∀ x, x ∈ T ↔ x ∈ J) : sortL T = canon J := by
  refine inc_ext ?_ (canon_inc J) fun x => by rw [sort_mem, canon_mem, h]
  have h1 := sort_le T
  have h2 : (sortL T).Nodup := by
    unfold sortL
    exact (List.mergeSort_perm T _).nodup_iff.2 hn
  unfold Inc
  rw [List.pairwise_iff_getElem] at h1 ⊢
  intro i j hi hj hij
  have h3 := h1 i j hi hj hij
  have h4 : (sortL T)[i] ≠ (sortL T)[j] := fun e => by
    have := (List.getElem_inj h2).1 e
    omega
  omega
theorem needed_fn {gs : List GateM} (hc : CirOk gs) (hl : gs.length ≤ 100000) {r : Int} (hr : RefOk gs r) : Fn Tryd.prog 29 [crc gs, litI r] (.pv (ints (needM gs r))) := by
  have hr0 := hr
  unfold RefOk at hr
  have hv := visit_fn hc hl gs.length [] (r / 2).toNat (by omega) (by omega)
  have hn := visit_nodup hc hr0
  have hsm := visit_small hc hr0
  rw [show (((r / 2).toNat : Nat) : Int) = r / 2 by omega] at hv
  unfold needM
  generalize visitM gs gs.length [] (r / 2).toNat = J at hv hn hsm ⊢
  refine Fn.enter (n := 28) Tryd.func29 rfl rfl rfl rfl rfl (by decide) fun g hro_ hwt_ => ?_; (try (conv => rhs; simp only [Nf.all, Nat.reduceBEq, reduceAdd, reduceSub]))
  (refine zq ?_; refine AOps.box rfl rfl rfl rfl ?_; (conv => rhs; simp only [Nf.all, Nat.reduceBEq, reduceAdd, reduceSub]); refine za ?_; refine zd ?_; refine zq ?_; (conv => rhs; simp only [Nf.all, Nat.reduceBEq, reduceAdd, reduceSub]); refine AOps.makeSet (t := 72) rfl ?_; (conv => rhs; simp only [Nf.all, Nat.reduceBEq, reduceAdd, reduceSub]); refine AOps.allocN' rfl rfl rfl rfl ?_; (conv => rhs; simp only [Nf.all, Nat.reduceBEq, reduceAdd, reduceSub]); refine AOps.store_b1 rfl rfl rfl rfl rfl rfl rfl rfl rfl (by with_reducible assumption) ?_; (conv => rhs; simp only [Nf.all, Nat.reduceBEq, reduceAdd, reduceSub]); refine zd ?_; refine zq ?_; refine AOps.allocN' rfl rfl rfl rfl ?_; (conv => rhs; simp only [Nf.all, Nat.reduceBEq, reduceAdd, reduceSub]); refine zd ?_; refine zq ?_; refine AOps.makeFunc_3 rfl rfl rfl rfl rfl rfl rfl ?_; refine AOps.store_b1 rfl rfl rfl rfl rfl rfl rfl rfl rfl (by with_reducible assumption) ?_; (conv => rhs; simp only [Nf.all, Nat.reduceBEq, reduceAdd, reduceSub]); refine zd ?_; refine zq ?_; refine zb ?_; refine zm ?_; refine AOps.quoE rfl rfl rfl rfl rfl (by omega) ?_; (with_reducible apply AOps.callX (hf := hv)); (with_reducible assumption); (iterate 3 exact rfl); (repeat (first | exact trivial | refine ⟨rfl, ?_⟩)); (repeat (first | exact .nil | (refine .cons ?_ ?_; (first | exact .eq rfl rfl | exact .nil _ | exact .any _)))); exact rfl; exact rfl; (repeat (first | exact trivial | refine ⟨rfl, ?_⟩ | refine ⟨obIds_set, ?_⟩)); (repeat (first | exact trivial | refine ⟨rfl, ?_⟩ | refine ⟨obIds_set, ?_⟩)); exact rfl; exact rfl; (conv => rhs; simp only [Nf.af, Nf.xe0, Nf.xe1, Nf.xo0, Nf.xon, Nf.xor, Nf.xob, Nf.xom, Nf.xoi, Nf.xol, Nf.xop, Nf.xl0, Nf.xl1, Nf.xk_any, Nf.xk_pv, Nf.xk_ptr, Nf.xk_rptr, Nf.xk_mapr, Nf.xk_yld, Nf.xk_own, Nf.xk_optr, Nf.xk_agg, Nf.xk_tup, Nf.xk_clo, Nf.rw0, Nf.rwr, Nf.rwb, Nf.rwm, Nf.cn, Nf.nn, memN0, memN1, Nat.reduceBEq, cond_true, cond_false]); (conv => rhs; simp only [Nf.all, Nat.reduceBEq, reduceAdd, reduceSub]); refine zd ?_; refine zq ?_; refine za ?_; refine zd ?_; refine zo ?_; (with_reducible apply AW.gmap 6 5 7 2 1); (iterate 6 exact rfl); (try (conv => rhs; simp only [Nf.all, Nat.reduceBEq, reduceAdd, reduceSub])); refine zq ?_; refine zb ?_; refine AOps.range_mp rfl rfl rfl rfl ?_; (conv => rhs; simp only [Nf.all, Nat.reduceBEq, reduceAdd, reduceSub]); refine zd ?_; refine AW.block ?_)
  (apply AW.loopR [] [] (fun s : List Nat × List Int => ([(7, .own 5 3 1 (s.2.map encI)), (16, .ptr 4 0)] : List (Nat × AV))) (fun s : List Nat × List Int => ([(4, some (.it (setP J) s.1)), (5, some .row)] : List (Nat × Option Ob))) (fun s : List Nat × List Int => s.1.Nodup ∧ (∀ i ∈ s.1, i < J.length) ∧ s.2.length = s.1.length ∧ s.2.Nodup ∧ (∀ z, z ∈ s.2 ↔ ∃ i ∈ s.1, J[i]? = some z)) (fun s : List Nat × List Int => J.length - s.1.length) (([], [])); (conv => lhs; simp only [Nf.lpR, Nf.all, Nat.reduceBEq, reduceAdd, reduceSub]); (all_goals skip))
  · exact ⟨List.nodup_nil, by simp, rfl, List.nodup_nil, by simp⟩
  · exact weak rfl (by (refine ⟨.nilown _ _ _ rfl rfl, ?_⟩; refine ⟨.eq rfl rfl, ?_⟩; exact trivial)) (by (refine ⟨.it rfl, ?_⟩; refine ⟨.newrow rfl, ?_⟩; exact trivial)) rfl
  rintro ⟨seen, T⟩ ⟨hn1, hn2, hT0, hT1, hT2⟩
  simp only at hn1 hn2 hT0 hT1 hT2 ⊢
  have hsl := nodup_lt J.length hn1 hn2
  (refine zq ?_; (focus ((with_reducible apply AOps.nextSet); (iterate 4 exact rfl); (with_reducible assumption); all_goals intro hc_; (try (conv => rhs; simp only [Nf.all, Nat.reduceBEq, reduceAdd, reduceSub])))); refine AOps.extract rfl rfl rfl rfl ?_; refine zd ?_; refine zo ?_; refine AW.cond_lf rfl rfl ?_; refine AW.exit ?_; (iterate 2 refine thenD_exit ?_); refine inBlockD_exit ?_; refine thenD_n ?_; refine zq ?_; (conv => rhs; simp only [Nf.all, Nat.reduceBEq, reduceAdd, reduceSub]); refine AOps.move_own rfl rfl rfl ?_; (try (conv => rhs; simp only [Nf.all, Nat.reduceBEq, reduceAdd, reduceSub])); refine AOps.rowC (sort_rowC) [25, 7] rfl ⟨rfl, rfl, trivial⟩ rfl rfl rfl ?_; (conv => rhs; simp only [Nf.rwR, Nf.all, Nat.reduceBEq, reduceAdd, reduceSub]); refine zd ?_; refine zq ?_; refine AOps.move_own rfl rfl rfl ?_; refine AOps.assign_own rfl rfl rfl ?_; refine zd ?_; refine AW.ret ?_; (all_goals skip); rotate_left; refine AOps.extract rfl rfl rfl rfl ?_; refine zd ?_; refine zo ?_; refine AW.cond_lt rfl rfl ?_; refine AW.skip ?_; refine thenD_n ?_; refine AW.block ?_; refine zq ?_; (conv => rhs; simp only [Nf.all, Nat.reduceBEq, reduceAdd, reduceSub]); (focus ((with_reducible apply AOps.entrySet); (iterate 4 exact rfl); exact (fun h_ => by cases h_); rotate_left; (first | exact hc_.2.1 | (with_reducible assumption)))); refine AOps.extract rfl rfl rfl rfl ?_; refine za ?_; refine zd ?_; refine AW.region ?_; (conv => rhs; simp only [Nf.all, Nat.reduceBEq, reduceAdd, reduceSub]); refine AOps.move_own rfl rfl rfl ?_; refine zm ?_; refine AOps.bs1 rfl rfl rfl rfl rfl rfl rfl rfl ?_; (conv => rhs; simp only [Nf.all, Nat.reduceBEq, reduceAdd, reduceSub]); (with_reducible apply AOps.appendS); exact rfl; (first | exact .pv rfl | exact .own rfl | exact .nil rfl); (iterate 9 exact rfl); (first | omega | (simp only [List.length_map, List.length_append, List.length_cons, List.length_nil, List.length_drop, List.length_take, chunk_len]; omega)); (conv => rhs; simp only [Nf.all, Nat.reduceBEq, reduceAdd, reduceSub]); refine AOps.assign_own rfl rfl rfl ?_; refine AOps.nil ?_; refine inBlockD_n ?_; refine thenD_n ?_; (all_goals skip); rotate_left)
  · have hcan : sortL T = canon J := sort_canon hT1 fun z => by
      rw [hT2]
      constructor
      · rintro ⟨i, _, hi⟩; exact List.mem_of_getElem? hi
      · intro hz
        obtain ⟨i, hi⟩ := List.getElem?_of_mem hz
        exact ⟨i, hc_ i (List.getElem?_eq_some_iff.1 hi).1, hi⟩
    (apply ends_ret; (exact Res.one (.tmp rfl rfl)); (refine Le.ownE ?_; (first | rfl | (rw [← hcan]; rfl))))
  · obtain ⟨i, hi1, hi2⟩ := hc_
    have hnd : (seen ++ [i]).Nodup := by rw [List.nodup_append]; exact ⟨hn1, by simp, by intro a ha b hb e; simp at hb; subst hb; subst e; exact hi2 ha⟩
    have hbd : ∀ x ∈ seen ++ [i], x < J.length := by intro x hx; rcases List.mem_append.1 hx with hx | hx; exact hn2 x hx; simp at hx; subst hx; exact hi1
    have hml := nodup_lt J.length hnd hbd
    have hnew : J[i] ∉ T := fun hm => by
      obtain ⟨j, hj, hje⟩ := (hT2 _).1 hm
      have hj2 := hn2 j hj
      rw [List.getElem?_eq_getElem hj2] at hje
      have := (List.getElem_inj hn).1 (Option.some.inj hje)
      subst this
      exact hi2 hj
    refine ⟨(seen ++ [i], T ++ [J[i]]), ⟨hnd, hbd, by simp [hT0], by rw [List.nodup_append]; exact ⟨hT1, by simp, by intro a ha b hb e; simp at hb; subst hb; subst e; exact hnew ha⟩, fun z => ?_⟩, by show J.length - (seen ++ [i]).length < J.length - seen.length; simp at hml ⊢; omega, weak rfl (by (refine ⟨.ownE (by first | with_reducible rfl | (first | rfl | (rw [List.map_append]; rfl))) rfl, ?_⟩; refine ⟨.eq rfl rfl, ?_⟩; exact trivial)) (by (refine ⟨.it rfl, ?_⟩; refine ⟨.row rfl, ?_⟩; exact trivial)) rfl⟩
    show z ∈ T ++ [J[i]] ↔ _
    rw [List.mem_append, hT2]
    constructor
    · rintro (⟨m, hm, h⟩ | h)
      · exact ⟨m, by simp [hm], h⟩
      · simp at h; subst h; exact ⟨i, by simp, List.getElem?_eq_getElem hi1⟩
    · rintro ⟨m, hm, h⟩
      rcases List.mem_append.1 hm with hm | hm
      · exact .inl ⟨m, hm, h⟩
      · simp at hm; subst hm; rw [List.getElem?_eq_getElem hi1] at h; exact .inr (by simpa using (Option.some.inj h).symm)
end Go.Ab
