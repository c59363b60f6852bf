/- Chapter 24: the input variables; symmetries act on them, in plain terms. -/
import Derived.Test.YtcklfjkaadfjjaaAoM2
import Derived.Test.YtcklfjkaadfjjaaAoK15
import Derived.Test.YtcklfjkaadfjjaaAbL3
import Derived.Test.YtcklfjkaadfjjaaAbL2
set_option linter.unusedSimpArgs false
set_option linter.unusedVariables false
namespace Go.Ab
open Go Go.Proofs
set_option maxRecDepth 20000
set_option maxHeartbeats 4000000
theorem freeL_mem : ∀ {bs : List BndM} {i : Nat} {p : Int × Int}, p ∈ freeL i bs → ∃ k, ∃ h : k < bs.length, p.1 = ((i + k : Nat) : Int) ∧ p.2 ∈ undL bs[k]
  | [], _, _, h => by cases h
  | x :: bs, i, p, h => by
    rcases List.mem_append.1 h with h | h
    · obtain ⟨t, ht, rfl⟩ := List.mem_map.1 h
      exact ⟨0, by simp, rfl, ht⟩
    · obtain ⟨k, hk, h1, h2⟩ := freeL_mem h
      exact ⟨k + 1, by simpa using hk, by rw [h1]; omega, h2⟩
theorem freeL_mk : ∀ {bs : List BndM} {i k : Nat} (h : k < bs.length) {t : Int}, t ∈ undL bs[k] → (((i + k : Nat) : Int), t) ∈ freeL i bs
  | x :: bs, i, 0, _, t, ht => List.mem_append.2 (.inl (List.mem_map.2 ⟨t, ht, rfl⟩))
  | x :: bs, i, k + 1, h, t, ht => by
    have := freeL_mk (bs := bs) (i := i + 1) (k := k) (by simpa using h) (t := t) ht
    rw [show i + 1 + k = i + (k + 1) by omega] at this
    exact List.mem_append.2 (.inr this)
theorem freeL_nodup : ∀ {bs : List BndM} {i : Nat}, (∀ x ∈ bs, Inc x.2.2) → (freeL i bs).Nodup
  | [], _, _ => List.nodup_nil
  | x :: bs, i, h => by
    show ((undL x).map (fun t => ((i : Int), t)) ++ freeL (i + 1) bs).Nodup
    rw [List.nodup_append]
    refine ⟨?_, freeL_nodup fun y hy => h y (by simp [hy]), ?_⟩
    · refine List.Pairwise.map _ (fun a b hab e => ?_) (diff_inc (b := x.1.2) (h x (by simp)))
      have := congrArg Prod.snd e
      simp only at this
      omega
    · intro a ha b hb e
      obtain ⟨t, _, rfl⟩ := List.mem_map.1 ha
      obtain ⟨k, _, h1, _⟩ := freeL_mem hb
      rw [← e] at h1
      simp only at h1
      omega
abbrev VarT := Int × Int × Int
/-- the variables: selectors, then the free tuples of each state. -/
def selV (o : Int) (n : Nat) : List VarT := (List.range n).map fun i : Nat => ((-1 : Int), (0 : Int), (i : Int) + o)
def selN (st : Nat) : Nat := if 1 < st then st else 0
def stV (fr : List (Int × Int)) (vr : Int → Bool) (s : Nat) : List VarT := (fr.filter fun t => decide (s = 0) || vr t.1).map fun t => ((s : Int), t.1, t.2)
def varsM (o : Int) (st : Nat) (fr : List (Int × Int)) (vr : Int → Bool) : List VarT := selV o (selN st) ++ (List.range st).flatMap (stV fr vr)
theorem mem_sel {o : Int} {n : Nat} {v : VarT} : v ∈ selV o n ↔ v.1 = -1 ∧ v.2.1 = 0 ∧ o ≤ v.2.2 ∧ v.2.2 < o + n := by
  unfold selV
  rw [List.mem_map]
  constructor
  · rintro ⟨i, hi, rfl⟩
    have := List.mem_range.1 hi
    exact ⟨rfl, rfl, by show o ≤ (i : Int) + o; omega, by show (i : Int) + o < o + n; omega⟩
  · rintro ⟨h1, h2, h3, h4⟩
    exact ⟨(v.2.2 - o).toNat, List.mem_range.2 (by omega), Prod.ext h1.symm (Prod.ext h2.symm (by simp only; omega))⟩
theorem mem_st {fr : List (Int × Int)} {vr : Int → Bool} {s : Nat} {v : VarT} : v ∈ stV fr vr s ↔ v.1 = (s : Int) ∧ (v.2.1, v.2.2) ∈ fr ∧ (s = 0 ∨ vr v.2.1 = true) := by
  unfold stV
  rw [List.mem_map]
  constructor
  · rintro ⟨t, ht, rfl⟩
    obtain ⟨h1, h2⟩ := List.mem_filter.1 ht
    rw [Bool.or_eq_true, decide_eq_true_iff] at h2
    exact ⟨rfl, h1, h2⟩
  · rintro ⟨h1, h2, h3⟩
    exact ⟨(v.2.1, v.2.2), List.mem_filter.2 ⟨h2, by rw [Bool.or_eq_true, decide_eq_true_iff]; exact h3⟩, Prod.ext h1.symm rfl⟩
theorem mem_vars {o : Int} {st : Nat} {fr : List (Int × Int)} {vr : Int → Bool} {v : VarT} : v ∈ varsM o st fr vr ↔ (v.1 = -1 ∧ v.2.1 = 0 ∧ o ≤ v.2.2 ∧ v.2.2 < o + selN st) ∨ ((0 ≤ v.1 ∧ v.1 < (st : Int)) ∧ (v.2.1, v.2.2) ∈ fr ∧ (v.1 = 0 ∨ vr v.2.1 = true)) := by
  unfold varsM
  rw [List.mem_append, mem_sel, List.mem_flatMap]
  refine or_congr Iff.rfl ⟨?_, ?_⟩
  · rintro ⟨s, hs, hv⟩
    obtain ⟨h1, h2, h3⟩ := mem_st.1 hv
    have := List.mem_range.1 hs
    exact ⟨by omega, h2, h3.imp (fun h => by omega) id⟩
  · rintro ⟨h1, h2, h3⟩
    exact ⟨v.1.toNat, List.mem_range.2 (by omega), mem_st.2 ⟨by omega, h2, h3.imp (fun h => by omega) id⟩⟩
theorem nodup_flat {α β : Type} {f : α → List β} : ∀ {l : List α}, l.Nodup → (∀ a ∈ l, (f a).Nodup) → (∀ a ∈ l, ∀ b ∈ l, ∀ x, x ∈ f a → x ∈ f b → a = b) → (l.flatMap f).Nodup
  | [], _, _, _ => List.nodup_nil
  | a :: l, h, h1, h2 => by
    obtain ⟨ha, hl⟩ := List.nodup_cons.1 h
    rw [List.flatMap_cons, List.nodup_append]
    refine ⟨h1 a (by simp), nodup_flat hl (fun b hb => h1 b (by simp [hb])) (fun b hb c hc => h2 b (by simp [hb]) c (by simp [hc])), fun x hx y hy e => ?_⟩
    subst e
    obtain ⟨b, hb, hy⟩ := List.mem_flatMap.1 hy
    have := h2 a (by simp) b (by simp [hb]) x hx hy
    subst this
    exact ha hb
theorem vars_nodup (o : Int) (st : Nat) {fr : List (Int × Int)} (vr : Int → Bool) (h : fr.Nodup) : (varsM o st fr vr).Nodup := by
  unfold varsM
  rw [List.nodup_append]
  refine ⟨?_, nodup_flat List.nodup_range (fun s _ => ?_) (fun a _ b _ x hx hy => ?_), fun x hx y hy e => ?_⟩
  · refine List.Pairwise.map _ (fun a b hab e => ?_) (List.nodup_range (n := selN st))
    have := congrArg (fun v : VarT => v.2.2) e
    simp only at this
    omega
  · refine List.Pairwise.map _ (fun a b hab e => hab ?_) (h.filter _)
    have := congrArg (fun v : VarT => v.2) e
    exact this
  · have h1 := (mem_st.1 hx).1
    have h2 := (mem_st.1 hy).1
    omega
  · subst e
    have h1 := (mem_sel.1 hx).1
    obtain ⟨s, _, hs⟩ := List.mem_flatMap.1 hy
    have h2 := (mem_st.1 hs).1
    omega
/-- a permutation of atoms acts on variables. -/
def actV (n : Nat) (ar : Int → Nat) (p : List Int) (v : VarT) : VarT := if 0 ≤ v.1 then (v.1, v.2.1, imgR n p (ar v.2.1) v.2.2) else v
structure BndOk (n : Nat) (ar : Int → Nat) (bs : List BndM) : Prop where
  low : ∀ (i : Nat) (h : i < bs.length), RanksOk n (ar (i : Int)) bs[i].1.2
  high : ∀ (i : Nat) (h : i < bs.length), RanksOk n (ar (i : Int)) bs[i].2.2
def keepB (n : Nat) (ar : Int → Nat) (p : List Int) (bs : List BndM) : Prop := ∀ (i : Nat) (h : i < bs.length), keepL n p (ar (i : Int)) bs[i].1.2 = true ∧ keepL n p (ar (i : Int)) bs[i].2.2 = true
section sym
variable {n : Nat} {ar : Int → Nat} {bs : List BndM} {srt : Int → Int} {p q : List Int}
theorem free_act (hp : PermA n srt p) (hn : 0 < n) (hb : BndOk n ar bs) (hk : keepB n ar p bs) {f t : Int} (h : (f, t) ∈ freeL 0 bs) : (f, imgR n p (ar f) t) ∈ freeL 0 bs := by
  obtain ⟨k, hk', h1, h2⟩ := freeL_mem h
  simp only [Nat.zero_add] at h1
  obtain ⟨h3, h4⟩ := mem_diff.1 h2
  subst h1
  have := freeL_mk (bs := bs) (i := 0) hk' (t := imgR n p (ar (k : Int)) t) (mem_diff.2 ⟨keep_mem (hb.high k hk').inc (hk k hk').2 h3, fun hm => h4 (keep_back hp hn (hb.low k hk') (hk k hk').1 ((hb.high k hk').rng t h3) hm)⟩)
  simpa using this
theorem free_rng (hb : BndOk n ar bs) {f t : Int} (h : (f, t) ∈ freeL 0 bs) : 0 ≤ t ∧ t < ((n ^ ar f : Nat) : Int) := by
  obtain ⟨k, hk', h1, h2⟩ := freeL_mem h
  simp only [Nat.zero_add] at h1
  subst h1
  exact (hb.high k hk').rng t (mem_diff.1 h2).1
theorem act_mem {o : Int} {st : Nat} {vr : Int → Bool} (hp : PermA n srt p) (hn : 0 < n) (hb : BndOk n ar bs) (hk : keepB n ar p bs) : ∀ v ∈ varsM o st (freeL 0 bs) vr, actV n ar p v ∈ varsM o st (freeL 0 bs) vr := by
  intro v hv
  unfold actV
  split
  · rename_i h0
    rcases mem_vars.1 hv with h | ⟨h1, h2, h3⟩
    · omega
    · exact mem_vars.2 (.inr ⟨h1, free_act hp hn hb hk h2, h3⟩)
  · exact hv
theorem act_inj {o : Int} {st : Nat} {vr : Int → Bool} (hp : PermA n srt p) (hn : 0 < n) (hb : BndOk n ar bs) : ∀ u ∈ varsM o st (freeL 0 bs) vr, ∀ v ∈ varsM o st (freeL 0 bs) vr, actV n ar p u = actV n ar p v → u = v := by
  intro u hu v hv e
  have e1 : u.1 = v.1 := by
    have := congrArg (fun v : VarT => v.1) e
    unfold actV at this
    split at this <;> split at this <;> exact this
  unfold actV at e
  by_cases h0 : 0 ≤ u.1
  · rw [if_pos h0, if_pos (by omega)] at e
    have e2 := congrArg (fun v : VarT => v.2.1) e
    have e3 := congrArg (fun v : VarT => v.2.2) e
    simp only at e2 e3
    rcases mem_vars.1 hu with h | ⟨_, h2, _⟩
    · omega
    rcases mem_vars.1 hv with h | ⟨_, h2', _⟩
    · omega
    rw [← e2] at e3 h2'
    exact Prod.ext e1 (Prod.ext e2 (img_inj hp hn _ (free_rng hb h2) (free_rng hb h2') e3))
  · rw [if_neg h0, if_neg (by omega)] at e
    exact e
end sym
/-- the induced permutation. -/
def litV (o : Int) (n : Nat) (ar : Int → Nat) (st : Nat) (vr : Int → Bool) (bs : List BndM) (p : List Int) : List Int := litsL (varsM o st (freeL 0 bs) vr) (actV n ar p)
/-- the symmetries. -/
structure SymP (n : Nat) (srt : Int → Int) (fx : Int → Bool) (ar : Int → Nat) (bs : List BndM) (p : List Int) : Prop where
  perm : PermA n srt p
  fix : ∀ (x : Nat), x < n → fx (x : Int) = true → p.getD x 0 = (x : Int)
  keep : keepB n ar p bs
section grp
variable {n : Nat} {ar : Int → Nat} {bs : List BndM} {srt : Int → Int} {fx : Int → Bool} {p q : List Int}
theorem SymP.inv (hn : 0 < n) (hb : BndOk n ar bs) (hp : SymP n srt fx ar bs p) : SymP n srt fx ar bs (invA p) := by
  refine ⟨hp.perm.inv, fun x hx hf => ?_, fun i h => ⟨keep_inv hp.perm hn (hb.low i h) (hp.keep i h).1, keep_inv hp.perm hn (hb.high i h) (hp.keep i h).2⟩⟩
  have := hp.perm.inv_at hx
  rw [hp.fix x hx hf] at this
  exact this
theorem SymP.id (hn : 0 < n) (hb : BndOk n ar bs) : SymP n srt fx ar bs (idA n) :=
  ⟨.id n srt, fun x hx _ => idA_at hx, fun i h => ⟨keep_id hn (hb.low i h), keep_id hn (hb.high i h)⟩⟩
theorem lit_perm {o : Int} {st : Nat} {vr : Int → Bool} (hn : 0 < n) (hb : BndOk n ar bs) (hp : SymP n srt fx ar bs p) : PermN (varsM o st (freeL 0 bs) vr).length (litV o n ar st vr bs p) :=
  lits_perm (vars_nodup o st vr (freeL_nodup fun x hx => by obtain ⟨i, hi, rfl⟩ := List.getElem_of_mem hx; exact (hb.high i hi).inc)) (act_mem hp.perm hn hb hp.keep) (act_inj hp.perm hn hb)
end grp
end Go.Ab
/- Chapter 24: the variables' numbers, in plain terms. -/
namespace Go.Ab
open Go Go.Proofs
set_option maxRecDepth 20000
set_option maxHeartbeats 4000000
/-- variables numbered on from i. -/
def numF : Nat → List VarT → List (Key3 × Int)
  | _, [] => []
  | i, v :: l => (v, (i : Int) + 1) :: numF (i + 1) l
theorem numF_snoc : ∀ (l : List VarT) (i : Nat) (v : VarT), numF i (l ++ [v]) = numF i l ++ [(v, ((i + l.length : Nat) : Int) + 1)]
  | [], _, _ => rfl
  | u :: l, i, v => by
    show _ :: numF (i + 1) (l ++ [v]) = _ :: (numF (i + 1) l ++ _)
    rw [numF_snoc l (i + 1) v, List.length_cons, show i + 1 + l.length = i + (l.length + 1) by omega]
theorem numF_keys : ∀ (l : List VarT) (i : Nat), (numF i l).map (·.1) = l
  | [], _ => rfl
  | u :: l, i => by
    show u :: (numF (i + 1) l).map (·.1) = u :: l
    rw [numF_keys l (i + 1)]
theorem lookF : ∀ (l : List VarT) (i : Nat) (v : VarT), v ∈ l → lookV (numF i l) v = ((i + l.findIdx (fun u => decide (u = v)) : Nat) : Int) + 1
  | [], _, _, h => by cases h
  | u :: l, i, v, h => by
    show (if v = u then (i : Int) + 1 else lookV (numF (i + 1) l) v) = _
    rw [List.findIdx_cons]
    by_cases e : v = u
    · subst e
      rw [if_pos rfl]
      simp
    · have e2 : decide (u = v) = false := decide_eq_false (fun h => e h.symm)
      rw [if_neg e, e2, lookF l (i + 1) v ((List.mem_cons.1 h).resolve_left e)]
      simp only [cond_false]
      omega
/-- the variables of the states ahead, and of this one as far as k. -/
def stP (o : Int) (st : Nat) (fr : List (Int × Int)) (vr : Int → Bool) (s k : Nat) : List VarT := selV o (selN st) ++ (List.range s).flatMap (stV fr vr) ++ stV (fr.take k) vr s
theorem stP_zero (o : Int) (st : Nat) (fr : List (Int × Int)) (vr : Int → Bool) (s : Nat) : stP o st fr vr s 0 = selV o (selN st) ++ (List.range s).flatMap (stV fr vr) := by
  unfold stP stV
  simp
theorem stP_next (o : Int) (st : Nat) (fr : List (Int × Int)) (vr : Int → Bool) (s : Nat) : stP o st fr vr (s + 1) 0 = stP o st fr vr s fr.length := by
  rw [stP_zero]
  unfold stP
  rw [List.range_succ, List.flatMap_append, List.take_length, List.append_assoc]
  simp
theorem stP_start (o : Int) (st : Nat) (fr : List (Int × Int)) (vr : Int → Bool) : stP o st fr vr 0 0 = selV o (selN st) := by
  rw [stP_zero]; simp
theorem stP_end (o : Int) (st : Nat) (fr : List (Int × Int)) (vr : Int → Bool) : stP o st fr vr st 0 = varsM o st fr vr := by
  rw [stP_zero]; rfl
theorem stP_step (o : Int) (st : Nat) {fr : List (Int × Int)} (vr : Int → Bool) (s : Nat) {k : Nat} (h : k < fr.length) : stP o st fr vr s (k + 1) = if s = 0 ∨ vr fr[k].1 = true then stP o st fr vr s k ++ [((s : Int), fr[k].1, fr[k].2)] else stP o st fr vr s k := by
  unfold stP stV
  rw [take_succ_get h, List.filter_append, List.map_append, ← List.append_assoc]
  by_cases hc : s = 0 ∨ vr fr[k].1 = true
  · rw [if_pos hc]
    have : (decide (s = 0) || vr fr[k].1) = true := by rw [Bool.or_eq_true, decide_eq_true_iff]; exact hc
    rw [List.filter_cons, if_pos this]
    simp
  · rw [if_neg hc]
    have : ¬ (decide (s = 0) || vr fr[k].1) = true := by rw [Bool.or_eq_true, decide_eq_true_iff]; exact hc
    rw [List.filter_cons, if_neg this]
    simp
theorem selV_snoc (o : Int) (i : Nat) : selV o (i + 1) = selV o i ++ [(-1, 0, (i : Int) + o)] := by
  unfold selV
  rw [List.range_succ, List.map_append]; rfl
theorem stP_len {o : Int} {st : Nat} {fr : List (Int × Int)} {vr : Int → Bool} {s k : Nat} (hs : s ≤ st) : (stP o st fr vr s k).length ≤ st + (s + 1) * fr.length := by
  unfold stP
  have h1 : ∀ (l : List (Int × Int)) (s : Nat), (stV l vr s).length ≤ l.length := fun l s => by
    unfold stV
    rw [List.length_map]
    exact List.length_filter_le _ _
  have h2 : ∀ s : Nat, ((List.range s).flatMap (stV fr vr)).length ≤ s * fr.length := fun s => by
    induction s with
    | zero => simp
    | succ s ih =>
      rw [List.range_succ, List.flatMap_append, List.length_append, Nat.succ_mul, show [s].flatMap (stV fr vr) = stV fr vr s ++ [] from rfl, List.append_nil]
      have := h1 fr s
      omega
  have h3 : (selV o (selN st)).length ≤ st := by
    unfold selV selN
    simp
    split <;> omega
  have h4 := h2 s
  have h5 := h1 (fr.take k) s
  have h6 : (fr.take k).length ≤ fr.length := by rw [List.length_take]; omega
  rw [List.length_append, List.length_append, Nat.succ_mul]
  omega
/-- each part is a part of the whole; what comes next hasn't been there. -/
theorem stP_sub {o : Int} {st : Nat} {fr : List (Int × Int)} {vr : Int → Bool} (hf : fr.Nodup) {s k : Nat} (hs : s < st) (hk : k < fr.length) (hc : s = 0 ∨ vr fr[k].1 = true) : ((s : Int), fr[k].1, fr[k].2) ∉ stP o st fr vr s k ∧ ((s : Int), fr[k].1, fr[k].2) ∈ varsM o st fr vr := by
  constructor
  · intro h
    unfold stP at h
    rcases List.mem_append.1 h with h | h
    · rcases List.mem_append.1 h with h | h
      · have := (mem_sel.1 h).1
        simp only at this
        omega
      · obtain ⟨s', hs', h⟩ := List.mem_flatMap.1 h
        have h1 := (mem_st.1 h).1
        have h2 := List.mem_range.1 hs'
        simp only at h1
        omega
    · have h2 := (mem_st.1 h).2.1
      simp only at h2
      obtain ⟨j, hj, e⟩ := List.mem_take_iff_getElem.1 h2
      have e2 : fr[j] = fr[k] := e
      have := (List.getElem_inj hf).1 e2
      omega
  · exact mem_vars.2 (.inr ⟨⟨by simp only; omega, by simp only; omega⟩, List.getElem_mem hk, hc.imp (fun h => by simp only; omega) id⟩)
theorem selV_len (o : Int) (n : Nat) : (selV o n).length = n := by simp [selV]
theorem numS (k : Nat) : numF 0 (selV 0 (k + 1)) = numF 0 (selV 0 k) ++ [((-1, 0, (k : Int)), (k : Int) + 1)] := by
  rw [selV_snoc, numF_snoc, selV_len, Nat.zero_add, Int.add_zero]
theorem numS0 : numF 0 (selV 0 0) = [] := rfl
theorem selNew (k : Nat) : ((-1 : Int), (0 : Int), (k : Int)) ∉ (numF 0 (selV 0 k)).map (·.1) := by
  rw [numF_keys]
  intro h
  have := (mem_sel.1 h).2.2.2
  simp only at this
  omega
theorem numP {o : Int} {st : Nat} {fr : List (Int × Int)} {vr : Int → Bool} (s : Nat) {k : Nat} (h : k < fr.length) (hc : s = 0 ∨ vr fr[k].1 = true) : numF 0 (stP o st fr vr s (k + 1)) = numF 0 (stP o st fr vr s k) ++ [(((s : Int), fr[k].1, fr[k].2), ((stP o st fr vr s k).length : Int) + 1)] := by
  rw [stP_step o st vr s h, if_pos hc, numF_snoc, Nat.zero_add]
theorem lenP {o : Int} {st : Nat} {fr : List (Int × Int)} {vr : Int → Bool} (s : Nat) {k : Nat} (h : k < fr.length) (hc : s = 0 ∨ vr fr[k].1 = true) : ((stP o st fr vr s (k + 1)).length : Int) = ((stP o st fr vr s k).length : Int) + 1 := by
  rw [stP_step o st vr s h, if_pos hc, List.length_append]; rfl
theorem stayP {o : Int} {st : Nat} {fr : List (Int × Int)} {vr : Int → Bool} (s : Nat) {k : Nat} (h : k < fr.length) (hc : ¬ (s = 0 ∨ vr fr[k].1 = true)) : stP o st fr vr s (k + 1) = stP o st fr vr s k := by
  rw [stP_step o st vr s h, if_neg hc]
theorem stNew {st : Nat} {fr : List (Int × Int)} {vr : Int → Bool} (hf : fr.Nodup) {s k : Nat} (hs : s < st) (hk : k < fr.length) (hc : s = 0 ∨ vr fr[k].1 = true) : ((s : Int), fr[k].1, fr[k].2) ∉ (numF 0 (stP 0 st fr vr s k)).map (·.1) := by
  rw [numF_keys]
  exact (stP_sub hf hs hk hc).1
/-- the numbers of the images. -/
def outL (V : List VarT) (f : VarT → VarT) (U : List VarT) : List Int := U.map fun v => lookV (numF 0 V) (f v)
theorem outL_snoc (V : List VarT) (f : VarT → VarT) (U : List VarT) (v : VarT) : outL V f (U ++ [v]) = outL V f U ++ [lookV (numF 0 V) (f v)] := by simp [outL]
theorem outL_all {V : List VarT} {f : VarT → VarT} (h : ∀ v ∈ V, f v ∈ V) : outL V f V = litsL V f := by
  unfold outL litsL
  refine List.map_congr_left fun v hv => ?_
  rw [lookF V 0 (f v) (h v hv), Nat.zero_add]
theorem outS (V : List VarT) (f : VarT → VarT) (hf : ∀ v : VarT, v.1 < 0 → f v = v) (k : Nat) : outL V f (selV 0 (k + 1)) = outL V f (selV 0 k) ++ [lookV (numF 0 V) (-1, 0, (k : Int))] := by
  rw [selV_snoc, outL_snoc, Int.add_zero, hf _ (by show (-1 : Int) < 0; decide)]
theorem outS0 (V : List VarT) (f : VarT → VarT) : outL V f (selV 0 0) = [] := rfl
theorem outP {o : Int} {st : Nat} {fr : List (Int × Int)} {vr : Int → Bool} (V : List VarT) (f : VarT → VarT) (s : Nat) {k : Nat} (h : k < fr.length) (hc : s = 0 ∨ vr fr[k].1 = true) : outL V f (stP o st fr vr s (k + 1)) = outL V f (stP o st fr vr s k) ++ [lookV (numF 0 V) (f ((s : Int), fr[k].1, fr[k].2))] := by
  rw [stP_step o st vr s h, if_pos hc, outL_snoc]
theorem outL_len (V : List VarT) (f : VarT → VarT) (U : List VarT) : (outL V f U).length = U.length := by simp [outL]
end Go.Ab
/- Chapter 24: images of ranks and relations: the program's Rel, walked. -/
namespace Go.Ab
open Go Go.Proofs
open Nat (reduceAdd reduceSub)
set_option maxRecDepth 20000
set_option maxHeartbeats 4000000
abbrev pwI (n i : Nat) : Int := ((n ^ i : Nat) : Int)
theorem pw_b {n i : Nat} (h : n ≤ 12) (hi : i ≤ 3) (hn : 0 < n) : 1 ≤ pwI n i ∧ pwI n i ≤ 1728 := by
  have h1 := Nat.pow_le_pow_left h i
  have h2 : 12 ^ i ≤ 12 ^ 3 := Nat.pow_le_pow_right (by omega) hi
  have h3 : 0 < n ^ i := Nat.pow_pos hn
  simp only [pwI]
  omega
theorem imgR_snoc (n : Nat) (p : List Int) : ∀ (i : Nat) (t : Int), imgR n p (i + 1) t = imgR n p i t + p.getD (t / pwI n i % (n : Int)).toNat 0 * pwI n i
  | 0, t => by simp [imgR, pwI]
  | i + 1, t => by
    show p.getD (t % (n : Int)).toNat 0 + (n : Int) * imgR n p (i + 1) (t / (n : Int)) = (p.getD (t % (n : Int)).toNat 0 + (n : Int) * imgR n p i (t / (n : Int))) + _
    rw [imgR_snoc n p i (t / (n : Int)), Int.ediv_ediv_of_nonneg (by omega), show (n : Int) * pwI n i = pwI n (i + 1) from (pow_succ_cast n i).symm, Int.mul_add, Int.mul_left_comm, show (n : Int) * pwI n i = pwI n (i + 1) from (pow_succ_cast n i).symm, Int.add_assoc]
attribute [local irreducible] AW AOps thenD inBlockD AR iterEnds roundEndsN inlEnds noGotoD imgR
theorem rank_fn {srt : Int → Int} (p : List Int) (ar : Nat) (t : Int) (hp : PermA p.length srt p) (hn : 0 < p.length) (hl : p.length ≤ 12) (ha : ar ≤ 3) (ht : 0 ≤ t ∧ t ≤ 1000000) :
    Fn Try.prog 69 [.agg [.pv (ints p), litI ar], litI t] (litI (imgR p.length p ar t)) := by
  refine Fn.enter (n := 34) Try.func69 rfl rfl rfl rfl rfl (by decide) fun g hro_ hwt_ => ?_; (try refine nz ?_)
  (refine zq ?_; refine AOps.box rfl rfl rfl rfl ?_; refine nz ?_; refine za ?_; refine zd ?_; refine zq ?_; refine nz ?_; refine AOps.fieldAddrN 130 0 0 rfl rfl rfl rfl ?_; refine zb ?_; refine zn ?_; refine za ?_; refine zd ?_; refine zq ?_; refine nz ?_; (iterate 2 refine za ?_); refine zd ?_; refine zo ?_; refine zq ?_; refine nz ?_; refine AOps.fieldAddrN 130 1 1 rfl rfl rfl rfl ?_; refine zb ?_; refine zm ?_; refine zd ?_; refine AW.block ?_)
  (refine nz ?_; apply AW.loopR [12, 5, 4, 2] [0] (fun i : Nat => ([(13, litI i), (1, litI (t / pwI p.length i)), (6, litI (imgR p.length p i t)), (7, litI (pwI p.length i))] : List (Nat × AV))) (fun i : Nat => ([] : List (Nat × Option Ob))) (fun i : Nat => i ≤ ar) (fun i : Nat => ar - i) (0); (conv => lhs; simp only [Nf.lpR, Nf.all, Nat.reduceBEq, reduceAdd, reduceSub]); (all_goals skip))
  · exact Nat.zero_le _
  · exact weak rfl (by (refine ⟨.intE (by first | with_reducible rfl | (first | rfl | (simp [imgR, pwI]; rfl) | simp [imgR, pwI])), ?_⟩; refine ⟨.intE (by first | with_reducible rfl | (first | rfl | (simp [imgR, pwI]; rfl) | simp [imgR, pwI])), ?_⟩; refine ⟨.intE (by first | with_reducible rfl | (first | rfl | (simp [imgR, pwI]; rfl) | simp [imgR, pwI])), ?_⟩; refine ⟨.intE (by first | with_reducible rfl | (first | rfl | (simp [imgR, pwI]; rfl) | simp [imgR, pwI])), ?_⟩; refine ⟨.intE (by first | with_reducible rfl | (first | rfl | (simp [imgR, pwI]; rfl) | simp [imgR, pwI])), ?_⟩; refine ⟨.intE (by first | with_reducible rfl | (first | rfl | (simp [imgR, pwI]; rfl) | simp [imgR, pwI])), ?_⟩; refine ⟨.intE (by first | with_reducible rfl | (first | rfl | (simp [imgR, pwI]; rfl) | simp [imgR, pwI])), ?_⟩; refine ⟨.eq rfl rfl, ?_⟩; exact trivial)) (by (refine ⟨.box _ rfl ?_, ?_⟩; refine ⟨.pvE (by first | with_reducible rfl | (first | rfl | (simp [imgR, pwI]; rfl) | simp [imgR, pwI])), ?_⟩; refine ⟨.intE (by first | with_reducible rfl | (first | rfl | (simp [imgR, pwI]; rfl) | simp [imgR, pwI])), ?_⟩; (iterate 2 exact trivial))) rfl
  rintro i hi
  by_cases hlt : i < ar
  · have hS := pw_b (n := p.length) (i := i) hl (by omega) hn
    have hS2 := pw_b (n := p.length) (i := i + 1) hl (by omega) hn
    have hsn := imgR_snoc p.length p i t
    have hT0 : 0 ≤ t / pwI p.length i := Int.ediv_nonneg ht.1 (by omega)
    have hT1 : t / pwI p.length i ≤ t := Int.ediv_le_self _ ht.1
    have hT2 : t / pwI p.length (i + 1) = t / pwI p.length i / (p.length : Int) := by
      rw [Int.ediv_ediv_of_nonneg (by omega), Int.mul_comm, ← pow_succ_cast]
    have hSn : pwI p.length (i + 1) = pwI p.length i * (p.length : Int) := by
      rw [Int.mul_comm]; exact pow_succ_cast _ _
    have hb := img_rng hp hn i t
    have hO : 0 ≤ imgR p.length p i t ∧ imgR p.length p i t < pwI p.length i := hb
    rw [hSn] at hS2
    clear hb
    generalize imgR p.length p i t = O at hO hsn ⊢
    generalize t / pwI p.length i = T at hT0 hT1 hT2 hsn ⊢
    generalize pwI p.length i = S at hS hSn hS2 hO hsn ⊢
    have hm := mod_lt hn T
    have hm0 : 0 ≤ T % (p.length : Int) := Int.emod_nonneg _ (by omega)
    have hm1 : T % (p.length : Int) < (p.length : Int) := Int.emod_lt_of_pos _ (by omega)
    have hd0 : 0 ≤ T / (p.length : Int) := Int.ediv_nonneg hT0 (by omega)
    rw [getD_of hm] at hsn
    have hx := hp.rng _ (List.getElem_mem hm)
    have hM : 0 ≤ p[(T % (p.length : Int)).toNat] * S ∧ p[(T % (p.length : Int)).toNat] * S ≤ 12 * 1728 := ⟨Int.mul_nonneg hx.1 (by omega), Int.mul_le_mul (by omega) hS.2 (by omega) (by omega)⟩
    (refine zq ?_; refine zs ?_; refine zd ?_; refine zo ?_; refine zc ?_; refine AW.skip ?_; refine thenD_n ?_; refine zo ?_; refine AW.block ?_; refine zo ?_; (with_reducible apply AW.regionQ); exact rfl; exact rfl; kernel_rfl; (with_reducible assumption); refine zm ?_; refine AOps.fieldAddrN 130 0 0 rfl rfl rfl rfl ?_; refine zb ?_; (iterate 2 refine zm ?_); refine AOps.remE rfl rfl rfl rfl rfl (by omega) ?_; (focus ((with_reducible apply AOps.index_mapI); (iterate 7 exact rfl); omega; rotate_left; (first | omega | exact Nat.zero_lt_one | exact (by simp)))); refine zr ?_; refine zm ?_; refine AOps.mul rfl rfl rfl rfl rfl (by omega) ?_; refine zj ?_; refine za ?_; refine zd ?_; refine zq ?_; refine nz ?_; (iterate 2 refine zm ?_); refine AOps.quoE rfl rfl rfl rfl rfl (by omega) ?_; refine za ?_; refine zd ?_; refine AW.region ?_; refine nz ?_; (iterate 2 refine zm ?_); refine AOps.mul rfl rfl rfl rfl rfl (by omega) ?_; refine za ?_; refine AOps.nil ?_; refine inBlockD_n ?_; refine thenD_n ?_; refine AW.region ?_; refine nz ?_; refine zj ?_; refine zm ?_; refine zd ?_)
    exact ⟨i + 1, by omega, by omega, weak rfl (by (refine ⟨.intE (by first | with_reducible rfl | (first | rfl | (rw [hT2]) | (rw [hsn]) | (rw [hSn]))), ?_⟩; refine ⟨.intE (by first | with_reducible rfl | (first | rfl | (rw [hT2]) | (rw [hsn]) | (rw [hSn]))), ?_⟩; refine ⟨.intE (by first | with_reducible rfl | (first | rfl | (rw [hT2]) | (rw [hsn]) | (rw [hSn]))), ?_⟩; refine ⟨.intE (by first | with_reducible rfl | (first | rfl | (rw [hT2]) | (rw [hsn]) | (rw [hSn]))), ?_⟩; refine ⟨.intE (by first | with_reducible rfl | (first | rfl | (rw [hT2]) | (rw [hsn]) | (rw [hSn]))), ?_⟩; refine ⟨.intE (by first | with_reducible rfl | (first | rfl | (rw [hT2]) | (rw [hsn]) | (rw [hSn]))), ?_⟩; refine ⟨.intE (by first | with_reducible rfl | (first | rfl | (rw [hT2]) | (rw [hsn]) | (rw [hSn]))), ?_⟩; refine ⟨.eq rfl rfl, ?_⟩; exact trivial)) (by (refine ⟨.box _ rfl ?_, ?_⟩; refine ⟨.pvE (by first | with_reducible rfl | (first | rfl | (rw [hT2]) | (rw [hsn]) | (rw [hSn]))), ?_⟩; refine ⟨.intE (by first | with_reducible rfl | (first | rfl | (rw [hT2]) | (rw [hsn]) | (rw [hSn]))), ?_⟩; (iterate 2 exact trivial))) rfl⟩
  · obtain rfl : i = ar := by omega
    (refine zq ?_; refine zs ?_; refine zd ?_; refine zo ?_; refine zk ?_; refine AW.exit ?_; (iterate 2 refine thenD_exit ?_); refine inBlockD_exit ?_; refine thenD_n ?_; refine zq ?_; refine nz ?_; refine zm ?_; refine za ?_; refine zd ?_; refine AW.ret ?_)
    (apply ends_ret; (exact Res.one (.tmp rfl rfl)); (refine Le.litI ?_; (rfl)))
end Go.Ab
/- Chapter 24: the program's image of a relation, walked. -/
namespace Go.Ab
open Go Go.Proofs
open Nat (reduceAdd reduceSub)
set_option maxRecDepth 20000
set_option maxHeartbeats 4000000
attribute [local irreducible] AW AOps thenD inBlockD AR iterEnds roundEndsN inlEnds noGotoD imgR sortL
theorem pRel_fn {srt : Int → Int} (at' : List Int) (st : Int) (p : List Int) (ar : Nat) (ts : List Int) (hp : PermA p.length srt p) (hn : 0 < p.length) (hl : p.length ≤ 12) (ha : ar ≤ 3) (ht : ∀ t ∈ ts, 0 ≤ t ∧ t ≤ 1000000) (hts : ts.length ≤ 100000) :
    Fn Try.prog 42 [scp at' st, .pv (ints p), relA ((ar : Int), ts)] (relA ((ar : Int), sortL (ts.map (imgR p.length p ar)))) := by
  have hr := fun t (h : t ∈ ts) => rank_fn p ar t hp hn hl ha (ht t h)
  refine Fn.enter (n := 24) Try.func42 rfl rfl rfl rfl rfl (by decide) fun g hro_ hwt_ => ?_; (try refine nz ?_)
  (refine zq ?_; refine AOps.box rfl rfl rfl rfl ?_; refine nz ?_; refine AOps.box rfl rfl rfl rfl ?_; refine nz ?_; refine AOps.allocN' rfl rfl rfl rfl ?_; refine nz ?_; refine zd ?_; refine zq ?_; refine zm ?_; refine AOps.fieldAddrN 99 0 0 rfl rfl rfl rfl ?_; refine zb ?_; refine AOps.buildN 130 [0, 1] rfl rfl rfl rfl rfl rfl rfl rfl rfl ?_; refine nz ?_; refine AOps.makeFunc_f1 rfl rfl rfl ?_; refine AOps.assign rfl rfl rfl ?_; refine nz ?_; refine zd ?_; refine zq ?_; refine AOps.fieldAddrN 99 1 1 rfl rfl rfl rfl ?_; refine zb ?_; refine AOps.move_clo rfl rfl rfl ?_; (with_reducible apply AOps.inline (hf := Try.func70)); (with_reducible assumption); (iterate 10 exact rfl); intro g_ hro_ hwt_; refine nz ?_; refine zq ?_; refine za ?_; refine zd ?_; refine zq ?_; refine nz ?_; refine zm ?_; refine zn ?_; refine AOps.makeSlice0 rfl rfl rfl rfl rfl rfl rfl rfl (by omega) ?_; refine nz ?_; refine AOps.assign_own rfl rfl rfl ?_; refine zd ?_; refine zo ?_; refine zq ?_; refine nz ?_; refine zm ?_; refine zn ?_; refine zm ?_; refine zd ?_; refine AW.block ?_)
  (refine nz ?_; apply AW.loopR [12, 11, 9, 4, 0, 1, 1016, 1015, 1014, 1007, 1006, 1005] [2, 1, 0] (fun k : Nat => ([(13, litI k), (5, .own 3 3 1 (((ts.take k).map (imgR p.length p ar)).map nI))] : List (Nat × AV))) (fun k : Nat => ([(3, some .row)] : List (Nat × Option Ob))) (fun k : Nat => k ≤ ts.length) (fun k : Nat => ts.length - k) (0); (conv => lhs; simp only [Nf.lpR, Nf.all, Nat.reduceBEq, reduceAdd, reduceSub]); (all_goals skip))
  · exact Nat.zero_le _
  · exact weak rfl (by (refine ⟨.eq rfl rfl, ?_⟩; (iterate 13 refine ⟨.eq rfl rfl, ?_⟩); exact trivial)) (by (refine ⟨.row rfl, ?_⟩; refine ⟨.box _ rfl ?_, ?_⟩; (iterate 2 refine ⟨.eq rfl rfl, ?_⟩); exact trivial; refine ⟨.box _ rfl ?_, ?_⟩; (iterate 2 refine ⟨.eq rfl rfl, ?_⟩); exact trivial; refine ⟨.box _ rfl ?_, ?_⟩; (iterate 2 refine ⟨.eq rfl rfl, ?_⟩); (iterate 2 exact trivial))) rfl
  rintro k hk
  by_cases hlt : k < ts.length
  · have h1 := hr ts[k] (List.getElem_mem hlt)
    have hs := take_succ_get hlt
    (refine zq ?_; refine zs ?_; refine zd ?_; refine zo ?_; refine zc ?_; refine AW.skip ?_; refine thenD_n ?_; refine zo ?_; refine AW.block ?_; refine zq ?_; refine nz ?_; (focus ((with_reducible apply AOps.index_map); (iterate 7 exact rfl); rotate_left; omega)); refine zr ?_; refine za ?_; refine zd ?_; refine AW.region ?_; refine nz ?_; refine AOps.move_own rfl rfl rfl ?_; refine AOps.move_clo rfl rfl rfl ?_; refine zm ?_; refine zC (h1) ?_; refine AOps.bs1 rfl rfl rfl rfl rfl rfl rfl rfl ?_; refine nz ?_; (with_reducible apply AOps.appendS); exact rfl; (first | exact .pv rfl | exact .own rfl | exact .nil rfl); (iterate 9 exact rfl); (first | omega | (simp only [List.length_map, List.length_append, List.length_cons, List.length_nil, List.length_drop, List.length_take, List.length_set, chunk_len]; omega)); refine nz ?_; refine AOps.assign_own rfl rfl rfl ?_; refine AOps.nil ?_; refine inBlockD_n ?_; refine thenD_n ?_; refine AW.region ?_; refine nz ?_; refine zj ?_; refine zm ?_; refine zd ?_)
    exact ⟨k + 1, by omega, by omega, weak rfl (by (refine ⟨.intE (by first | with_reducible rfl | (first | rfl | (rw [hs, List.map_append, List.map_append]; rfl))), ?_⟩; refine ⟨.ownE (by first | with_reducible rfl | (first | rfl | (rw [hs, List.map_append, List.map_append]; rfl))) rfl, ?_⟩; refine ⟨.intE (by first | with_reducible rfl | (first | rfl | (rw [hs, List.map_append, List.map_append]; rfl))), ?_⟩; refine ⟨.pvE (by first | with_reducible rfl | (first | rfl | (rw [hs, List.map_append, List.map_append]; rfl))), ?_⟩; refine ⟨.intE (by first | with_reducible rfl | (first | rfl | (rw [hs, List.map_append, List.map_append]; rfl))), ?_⟩; refine ⟨.eq rfl rfl, ?_⟩; refine ⟨.pvE (by first | with_reducible rfl | (first | rfl | (rw [hs, List.map_append, List.map_append]; rfl))), ?_⟩; (iterate 2 refine ⟨.eq rfl rfl, ?_⟩); refine ⟨.pvE (by first | with_reducible rfl | (first | rfl | (rw [hs, List.map_append, List.map_append]; rfl))), ?_⟩; (iterate 4 refine ⟨.eq rfl rfl, ?_⟩); exact trivial)) (by (refine ⟨.row rfl, ?_⟩; refine ⟨.box _ rfl ?_, ?_⟩; refine ⟨.intE (by first | with_reducible rfl | (first | rfl | (rw [hs, List.map_append, List.map_append]; rfl))), ?_⟩; refine ⟨.eq rfl rfl, ?_⟩; exact trivial; refine ⟨.box _ rfl ?_, ?_⟩; refine ⟨.intE (by first | with_reducible rfl | (first | rfl | (rw [hs, List.map_append, List.map_append]; rfl))), ?_⟩; refine ⟨.pvE (by first | with_reducible rfl | (first | rfl | (rw [hs, List.map_append, List.map_append]; rfl))), ?_⟩; exact trivial; refine ⟨.box _ rfl ?_, ?_⟩; refine ⟨.pvE (by first | with_reducible rfl | (first | rfl | (rw [hs, List.map_append, List.map_append]; rfl))), ?_⟩; refine ⟨.intE (by first | with_reducible rfl | (first | rfl | (rw [hs, List.map_append, List.map_append]; rfl))), ?_⟩; (iterate 2 exact trivial))) rfl⟩
  · rw [take_all (l := ts) (by omega)]
    generalize ts.map (imgR p.length p ar) = yl
    (refine zq ?_; refine zs ?_; refine zd ?_; refine zo ?_; refine zk ?_; refine AW.exit ?_; (iterate 2 refine thenD_exit ?_); refine inBlockD_exit ?_; refine thenD_n ?_; refine zq ?_; refine nz ?_; refine AOps.move_own rfl rfl rfl ?_; refine AOps.assign_own rfl rfl rfl ?_; refine zd ?_; refine AW.ret ?_; refine inlEnds_rown rfl rfl ?_; refine nz ?_; refine AOps.assign_own rfl rfl rfl ?_; refine zd ?_; refine zq ?_; refine nz ?_; refine AOps.move_own rfl rfl rfl ?_; (try refine nz ?_); refine AOps.rowC (sort_rowC) [18, 8, 17] rfl ⟨rfl, rfl, rfl, trivial⟩ rfl rfl rfl ?_; (conv => rhs; simp only [Nf.rwR, Nf.all, Nat.reduceBEq, reduceAdd, reduceSub]); refine zd ?_; refine zq ?_; refine AOps.fieldAddrN 99 0 0 rfl rfl rfl rfl ?_; refine zb ?_; refine AOps.move_own rfl rfl rfl ?_; refine AOps.buildN 99 [0, 1] rfl rfl rfl rfl rfl rfl rfl rfl rfl ?_; refine nz ?_; refine zB ?_; refine nz ?_; refine zd ?_; refine AW.ret ?_)
    (apply ends_ret; (exact Res.one (.cell rfl rfl rfl rfl)); (refine Le.aggL ?_; refine LeL.cons ?_ ?_; (with_reducible exact Le.pv _); refine LeL.cons ?_ ?_; exact Le.own _ _ _ _ rfl; exact LeL.nil))
end Go.Ab
/- Chapter 24: the induced permutation, walked. -/
namespace Go.Ab
open Go Go.Proofs Go.RowKit
open Nat (reduceAdd reduceSub)
set_option maxRecDepth 20000
set_option maxHeartbeats 4000000
def arF (fs : List FieldM) (f : Int) : Nat := (fs.getD f.toNat ⟨ByteArray.empty, [], false⟩).sorts.length
def vrF (fs : List FieldM) (f : Int) : Bool := (fs.getD f.toNat ⟨ByteArray.empty, [], false⟩).var
attribute [local irreducible] AW AOps thenD inBlockD AR iterEnds roundEndsN inlEnds noGotoD imgR selV stP varsM freeL numF lookV outL actV
structure LitOk (s : SpecM) (st : Nat) (bs : List BndM) (p : List Int) : Prop where
  stb : 1 ≤ st ∧ st ≤ 4
  nb : bs.length = s.fields.length ∧ bs.length ≤ 10
  sm : ∀ x ∈ bs, x.1.2.length ≤ 2000 ∧ x.2.2.length ≤ 2000 ∧ Inc x.1.2
  hi : ∀ x ∈ bs, Inc x.2.2
  rk : ∀ t ∈ freeL 0 bs, 0 ≤ t.2 ∧ t.2 ≤ 1000000
  ar : ∀ f ∈ s.fields, 1 ≤ f.sorts.length ∧ f.sorts.length ≤ 3
  pl : 0 < p.length ∧ p.length ≤ 12
  pa : ∃ srt, PermA p.length srt p
  mem : ∀ v ∈ varsM 0 st (freeL 0 bs) (vrF s.fields), actV p.length (arF s.fields) p v ∈ varsM 0 st (freeL 0 bs) (vrF s.fields)
theorem sortL_one (x : Int) : sortL [x] = [x] := by simp [sortL]
theorem lit_frl {s : SpecM} {st : Nat} {bs : List BndM} {p : List Int} (h : LitOk s st bs p) : (freeL 0 bs).length ≤ 1000000 := by
  have h1 := freeL_len bs 0 bs.length fun x hx => Nat.le_trans (h.sm x hx).2.1 (by omega)
  rw [List.take_length] at h1
  have := h.nb.2
  omega
attribute [local irreducible] sortL
theorem literals_fn (s : SpecM) (at' : List Int) (st : Nat) (bs : List BndM) (p : List Int) (h : LitOk s st bs p) :
    Fn Try.prog 20 [spc s, scp at' (st : Int), .pv (bnds bs), .pv (ints p)] (.pv (ints (litV 0 p.length (arF s.fields) st (vrF s.fields) bs p))) := by
  obtain ⟨so, fs, pr, fa⟩ := s
  simp only at *
  have hst1 := h.stb.1
  have hst2 := h.stb.2
  have hfree := free_fn bs (by have := h.nb.2; omega) (fun x hx => by have := h.sm x hx; exact ⟨by omega, by omega, this.2.2⟩)
  refine Fn.enter (n := 61) Try.func20 rfl rfl rfl rfl rfl (by decide) fun g hro_ hwt_ => ?_; (try refine nz ?_)
  (refine zq ?_; refine AOps.box rfl rfl rfl rfl ?_; refine nz ?_; refine AOps.box rfl rfl rfl rfl ?_; refine nz ?_; refine AOps.box rfl rfl rfl rfl ?_; refine nz ?_; refine za ?_; refine zd ?_; refine zq ?_; refine nz ?_; refine AOps.makeCnt (t := 93) rfl ?_; refine nz ?_; refine AOps.allocN' rfl rfl rfl rfl ?_; refine nz ?_; refine AOps.allocN' rfl rfl rfl rfl ?_; refine nz ?_; refine AOps.store_b1 rfl rfl rfl rfl rfl rfl rfl rfl rfl (by with_reducible assumption) ?_; refine nz ?_; refine AOps.store_b1 rfl rfl rfl rfl rfl rfl rfl rfl rfl (by with_reducible assumption) ?_; refine nz ?_; refine zd ?_; refine zo ?_; refine zq ?_; refine zL ?_; refine nz ?_; refine zL ?_; refine nz ?_; refine zm ?_; (with_reducible apply AOps.inline (hf := Try.func41)); (with_reducible assumption); (iterate 10 exact rfl); intro g_ hro_ hwt_; refine nz ?_; refine zq ?_; refine AOps.box rfl rfl rfl rfl ?_; refine nz ?_; refine AOps.box rfl rfl rfl rfl ?_; refine nz ?_; refine AOps.box rfl rfl rfl rfl ?_; refine nz ?_; refine za ?_; refine zd ?_; refine zq ?_; refine nz ?_; refine AOps.makeFunc_3 rfl rfl rfl rfl rfl rfl rfl ?_; refine AOps.assign rfl rfl rfl ?_; refine nz ?_; refine zd ?_; refine AW.ret ?_; refine inlEnds_rclo rfl rfl ?_; refine nz ?_; refine zd ?_; refine AW.block ?_)
  refine AW.rangeFuncUH (ps := [20]) (by assumption) (by assumption) rfl rfl Try.func67 rfl rfl rfl rfl rfl rfl (by decide) ?_
  intro gB tm0 l0 ps0 asg0 body0 hcode0 hroB hwtB hheld0 hupB htm0
  have htm0' : tm0.size = 61 := htm0
  refine AW.cut (δc := { n := 61, env := [(0, .yld 9), (1, .ptr 7 0), (2, .ptr 8 0), (3, .ptr 6 0), (1010, .ptr 5 0), (1009, .ptr 4 0), (1007, .ptr 2 0), (1005, .ptr 1 0), (1004, .ptr 0 0), (1002, .pv (bnds bs))], objs := [(3, some (.mp (mpV (numF 0 (selV 0 (selN st)))))), (5, some (.box [litI (selN st : Nat)])), (9, some (.loop l0 tm0 ps0 asg0 body0 .ready)), (8, some (.box [.pv (bnds bs)])), (7, some (.box [.pv (ints at'), litI st])), (6, some (.box [.pv (.slice 2 (so.map encSo)), .pv (.slice 3 (fs.map encF)), slv pr, slv fa])), (4, some (.box [.mapr 3])), (2, some (.box [.pv (ints p)])), (1, some (.box [.pv (ints at'), litI st])), (0, some (.box [.pv (.slice 2 (so.map encSo)), .pv (.slice 3 (fs.map encF)), slv pr, slv fa]))], nx := 10 }) ?_ ?_
  · by_cases h1 : 1 < st
    · have hsn : selN st = st := if_pos h1
      rw [hsn]
      (refine zq ?_; refine nz ?_; refine AOps.fieldAddrN 49 1 1 rfl rfl rfl rfl ?_; refine zb ?_; refine AOps.gtr rfl rfl rfl rfl rfl ?_; refine zd ?_; refine zc ?_; refine zq ?_; refine nz ?_; refine AOps.fieldAddrN 49 1 1 rfl rfl rfl rfl ?_; refine zb ?_; refine zm ?_; refine zd ?_; refine AW.block ?_)
      (refine nz ?_; apply AW.loopR [14, 0, 1, 2, 3, 1010, 1009, 1007, 1005, 1004, 1002, 1003] [9, 8, 7, 6, 4, 2, 1, 0] (fun k : Nat => ([(15, litI k)] : List (Nat × AV))) (fun k : Nat => ([(3, some (.mp (mpV (numF 0 (selV 0 k))))), (5, some (.box [litI k]))] : List (Nat × Option Ob))) (fun k : Nat => k ≤ st) (fun k : Nat => st - k) (0); (conv => lhs; simp only [Nf.lpR, Nf.all, Nat.reduceBEq, reduceAdd, reduceSub]); (all_goals skip))
      · exact Nat.zero_le _
      · exact weak rfl (by (refine ⟨.intE (by first | with_reducible rfl | (first | rfl)), ?_⟩; refine ⟨.intE (by first | with_reducible rfl | (first | rfl)), ?_⟩; (iterate 9 refine ⟨.eq rfl rfl, ?_⟩); (iterate 2 refine ⟨.pvE (by first | with_reducible rfl | (first | rfl)), ?_⟩); exact trivial)) (by (refine ⟨WO.vals0 rfl numS0, ?_⟩; refine ⟨.box _ rfl ?_, ?_⟩; refine ⟨.intE (by first | with_reducible rfl | (first | rfl)), ?_⟩; exact trivial; refine ⟨.loop rfl, ?_⟩; refine ⟨.box _ rfl ?_, ?_⟩; refine ⟨.pvE (by first | with_reducible rfl | (first | rfl)), ?_⟩; exact trivial; refine ⟨.box _ rfl ?_, ?_⟩; refine ⟨.pvE (by first | with_reducible rfl | (first | rfl)), ?_⟩; refine ⟨.intE (by first | with_reducible rfl | (first | rfl)), ?_⟩; exact trivial; refine ⟨.box _ rfl ?_, ?_⟩; (iterate 2 refine ⟨.pvE (by first | with_reducible rfl | (first | rfl)), ?_⟩); (iterate 2 refine ⟨.eq rfl rfl, ?_⟩); exact trivial; refine ⟨.box _ rfl ?_, ?_⟩; refine ⟨.eq rfl rfl, ?_⟩; exact trivial; refine ⟨.box _ rfl ?_, ?_⟩; refine ⟨.pvE (by first | with_reducible rfl | (first | rfl)), ?_⟩; exact trivial; refine ⟨.box _ rfl ?_, ?_⟩; refine ⟨.pvE (by first | with_reducible rfl | (first | rfl)), ?_⟩; refine ⟨.intE (by first | with_reducible rfl | (first | rfl)), ?_⟩; exact trivial; refine ⟨.box _ rfl ?_, ?_⟩; (iterate 2 refine ⟨.pvE (by first | with_reducible rfl | (first | rfl)), ?_⟩); (iterate 2 refine ⟨.eq rfl rfl, ?_⟩); (iterate 2 exact trivial))) rfl
      rintro k hk
      by_cases hlt : k < st
      · have hnum := numS k
        have hnew := selNew k
        (refine zq ?_; refine zs ?_; refine zd ?_; refine zo ?_; refine zc ?_; refine AW.skip ?_; refine thenD_n ?_; refine zo ?_; refine AW.block ?_; refine zq ?_; refine nz ?_; refine zm ?_; refine za ?_; refine zd ?_; refine zq ?_; refine nz ?_; refine AOps.move rfl rfl rfl ?_; refine nz ?_; refine zm ?_; refine AOps.buildN 97 [0, 2] rfl rfl rfl rfl rfl rfl rfl rfl rfl ?_; refine nz ?_; (with_reducible apply AOps.yieldN0 hcode0 hwtB hheld0 htm0'); (iterate 8 exact rfl); intro gR hroR_ hwtR hupR; (try refine nz ?_); refine AW.region ?_; refine AOps.allocN' rfl rfl rfl rfl ?_; refine nz ?_; refine zB ?_; refine nz ?_; refine zd ?_; refine And.intro (show isLp _ _ _ _ from ⟨_, _, _, _, rfl⟩) ?_; (try refine nz ?_); refine AW.block ?_; refine zq ?_; refine zb ?_; refine zj ?_; refine AOps.store_b1 rfl rfl rfl rfl rfl rfl rfl rfl rfl (by with_reducible assumption) ?_; refine nz ?_; refine zd ?_; refine AW.region ?_; refine zb ?_; refine zL ?_; refine nz ?_; refine zb ?_; refine AOps.mapUpdate_v rfl rfl rfl rfl rfl (by kernel_rfl) rfl rfl rfl rfl (by with_reducible assumption) (by with_reducible assumption) ?_; refine nz ?_; refine AOps.nil ?_; refine inBlockD_n ?_; (with_reducible apply roundEndsN_n); exact ⟨_, _, _, _, rfl⟩; refine nz ?_; refine AOps.not rfl rfl rfl ?_; refine zd ?_; refine AW.cond_lf rfl rfl ?_; refine AW.skip ?_; refine inBlockD_n ?_; refine thenD_n ?_; refine AW.region ?_; refine nz ?_; refine zj ?_; refine zm ?_; refine zd ?_)
        exact ⟨k + 1, by omega, by omega, weak rfl (by (refine ⟨.intE (by first | with_reducible rfl | (first | rfl)), ?_⟩; refine ⟨.intE (by first | with_reducible rfl | (first | rfl)), ?_⟩; (iterate 9 refine ⟨.eq rfl rfl, ?_⟩); (iterate 2 refine ⟨.pvE (by first | with_reducible rfl | (first | rfl)), ?_⟩); exact trivial)) (by (refine ⟨WO.valsE rfl hnum.symm, ?_⟩; refine ⟨.box _ rfl ?_, ?_⟩; refine ⟨.intE (by first | with_reducible rfl | (first | rfl)), ?_⟩; exact trivial; refine ⟨.loop rfl, ?_⟩; refine ⟨.box _ rfl ?_, ?_⟩; refine ⟨.pvE (by first | with_reducible rfl | (first | rfl)), ?_⟩; exact trivial; refine ⟨.box _ rfl ?_, ?_⟩; refine ⟨.pvE (by first | with_reducible rfl | (first | rfl)), ?_⟩; refine ⟨.intE (by first | with_reducible rfl | (first | rfl)), ?_⟩; exact trivial; refine ⟨.box _ rfl ?_, ?_⟩; (iterate 2 refine ⟨.pvE (by first | with_reducible rfl | (first | rfl)), ?_⟩); (iterate 2 refine ⟨.eq rfl rfl, ?_⟩); exact trivial; refine ⟨.box _ rfl ?_, ?_⟩; refine ⟨.eq rfl rfl, ?_⟩; exact trivial; refine ⟨.box _ rfl ?_, ?_⟩; refine ⟨.pvE (by first | with_reducible rfl | (first | rfl)), ?_⟩; exact trivial; refine ⟨.box _ rfl ?_, ?_⟩; refine ⟨.pvE (by first | with_reducible rfl | (first | rfl)), ?_⟩; refine ⟨.intE (by first | with_reducible rfl | (first | rfl)), ?_⟩; exact trivial; refine ⟨.box _ rfl ?_, ?_⟩; (iterate 2 refine ⟨.pvE (by first | with_reducible rfl | (first | rfl)), ?_⟩); (iterate 2 refine ⟨.eq rfl rfl, ?_⟩); (iterate 2 exact trivial))) rfl⟩
      · obtain rfl : k = st := by omega
        (refine zq ?_; refine zs ?_; refine zd ?_; refine zo ?_; refine zk ?_; refine AW.exit ?_; (iterate 2 refine thenD_exit ?_); refine inBlockD_exit ?_; refine onlyN_n ?_)
        show Weak _ _ _
        exact weak rfl (by (refine ⟨.eq rfl rfl, ?_⟩; (iterate 8 refine ⟨.eq rfl rfl, ?_⟩); refine ⟨.pvE (by first | with_reducible rfl | (first | rfl)), ?_⟩; exact trivial)) (by (refine ⟨WO.vals rfl, ?_⟩; refine ⟨.box _ rfl ?_, ?_⟩; refine ⟨.intE (by first | with_reducible rfl | (first | rfl)), ?_⟩; exact trivial; refine ⟨.loop rfl, ?_⟩; refine ⟨.box _ rfl ?_, ?_⟩; refine ⟨.pvE (by first | with_reducible rfl | (first | rfl)), ?_⟩; exact trivial; refine ⟨.box _ rfl ?_, ?_⟩; refine ⟨.pvE (by first | with_reducible rfl | (first | rfl)), ?_⟩; refine ⟨.intE (by first | with_reducible rfl | (first | rfl)), ?_⟩; exact trivial; refine ⟨.box _ rfl ?_, ?_⟩; (iterate 2 refine ⟨.pvE (by first | with_reducible rfl | (first | rfl)), ?_⟩); (iterate 2 refine ⟨.eq rfl rfl, ?_⟩); exact trivial; refine ⟨.box _ rfl ?_, ?_⟩; refine ⟨.eq rfl rfl, ?_⟩; exact trivial; refine ⟨.box _ rfl ?_, ?_⟩; refine ⟨.pvE (by first | with_reducible rfl | (first | rfl)), ?_⟩; exact trivial; refine ⟨.box _ rfl ?_, ?_⟩; refine ⟨.pvE (by first | with_reducible rfl | (first | rfl)), ?_⟩; refine ⟨.intE (by first | with_reducible rfl | (first | rfl)), ?_⟩; exact trivial; refine ⟨.box _ rfl ?_, ?_⟩; (iterate 2 refine ⟨.pvE (by first | with_reducible rfl | (first | rfl)), ?_⟩); (iterate 2 refine ⟨.eq rfl rfl, ?_⟩); (iterate 2 exact trivial))) rfl
    · have hsn : selN st = 0 := if_neg h1
      rw [hsn]
      (refine zq ?_; refine nz ?_; refine AOps.fieldAddrN 49 1 1 rfl rfl rfl rfl ?_; refine zb ?_; refine AOps.gtr rfl rfl rfl rfl rfl ?_; refine zd ?_; refine zk ?_; refine AW.skip ?_; refine onlyN_n ?_)
      show Weak _ _ _
      exact weak rfl (by (refine ⟨.eq rfl rfl, ?_⟩; (iterate 8 refine ⟨.eq rfl rfl, ?_⟩); refine ⟨.pvE (by first | with_reducible rfl | (first | rfl)), ?_⟩; exact trivial)) (by (refine ⟨WO.vals0 rfl numS0, ?_⟩; refine ⟨.box _ rfl ?_, ?_⟩; refine ⟨.intE (by first | with_reducible rfl | (first | rfl)), ?_⟩; exact trivial; refine ⟨.loop rfl, ?_⟩; refine ⟨.box _ rfl ?_, ?_⟩; refine ⟨.pvE (by first | with_reducible rfl | (first | rfl)), ?_⟩; exact trivial; refine ⟨.box _ rfl ?_, ?_⟩; refine ⟨.pvE (by first | with_reducible rfl | (first | rfl)), ?_⟩; refine ⟨.intE (by first | with_reducible rfl | (first | rfl)), ?_⟩; exact trivial; refine ⟨.box _ rfl ?_, ?_⟩; (iterate 2 refine ⟨.pvE (by first | with_reducible rfl | (first | rfl)), ?_⟩); (iterate 2 refine ⟨.eq rfl rfl, ?_⟩); exact trivial; refine ⟨.box _ rfl ?_, ?_⟩; refine ⟨.eq rfl rfl, ?_⟩; exact trivial; refine ⟨.box _ rfl ?_, ?_⟩; refine ⟨.pvE (by first | with_reducible rfl | (first | rfl)), ?_⟩; exact trivial; refine ⟨.box _ rfl ?_, ?_⟩; refine ⟨.pvE (by first | with_reducible rfl | (first | rfl)), ?_⟩; refine ⟨.intE (by first | with_reducible rfl | (first | rfl)), ?_⟩; exact trivial; refine ⟨.box _ rfl ?_, ?_⟩; (iterate 2 refine ⟨.pvE (by first | with_reducible rfl | (first | rfl)), ?_⟩); (iterate 2 refine ⟨.eq rfl rfl, ?_⟩); (iterate 2 exact trivial))) rfl
  generalize hfr : freeL 0 bs = fr at hfree
  have hfl : fr.length ≤ 1000000 := by rw [← hfr]; exact lit_frl h
  have hfn : fr.Nodup := by rw [← hfr]; exact freeL_nodup h.hi
  have hfd : ∀ (k : Nat) (hk : k < fr.length), 0 ≤ fr[k].1 ∧ ∃ hh : fr[k].1.toNat < fs.length, vrF fs fr[k].1 = fs[fr[k].1.toNat].var := fun k hk => by
    have hm : fr[k] ∈ freeL 0 bs := by rw [hfr]; exact List.getElem_mem hk
    obtain ⟨j, hj, h1, _⟩ := freeL_mem hm
    have hnb : bs.length = fs.length := h.nb.1
    refine ⟨by omega, by omega, ?_⟩
    unfold vrF
    rw [getD_of (by omega)]
  have hfk : ∀ (k : Nat) (hk : k < fr.length), 0 ≤ fr[k].2 ∧ fr[k].2 ≤ 1000000 := fun k hk => h.rk _ (by rw [hfr]; exact List.getElem_mem hk)
  generalize hvr : vrF fs = vr at hfd ⊢
  have hlen : ∀ s k, s ≤ st → (stP 0 st fr vr s k).length ≤ 6000000 := fun s k hs => by
    have h1 := stP_len (o := 0) (fr := fr) (vr := vr) (k := k) hs
    have h2 : (s + 1) * fr.length ≤ 5 * 1000000 := Nat.mul_le_mul (by omega) hfl
    omega
  (refine zq ?_; refine zb ?_; refine zP (hfree) ?_; refine za ?_; refine zd ?_; refine zq ?_; refine nz ?_; refine AOps.fieldAddrN 49 1 1 rfl rfl rfl rfl ?_; refine zb ?_; refine zm ?_; refine zd ?_; refine AW.block ?_)
  (refine nz ?_; apply AW.loopR [27, 6, 0, 2, 3, 1010, 1009, 1007, 1005, 1004, 1002] [9, 8, 7, 6, 4, 2, 1, 0] (fun s : Nat => ([(28, litI s)] : List (Nat × AV))) (fun s : Nat => ([(3, some (.mp (mpV (numF 0 (stP 0 st fr vr s 0))))), (5, some (.box [litI (stP 0 st fr vr s 0).length]))] : List (Nat × Option Ob))) (fun s : Nat => s ≤ st) (fun s : Nat => st - s) (0); (conv => lhs; simp only [Nf.lpR, Nf.all, Nat.reduceBEq, reduceAdd, reduceSub]); (all_goals skip))
  · exact Nat.zero_le _
  · exact weak rfl (by (refine ⟨.intE (by first | with_reducible rfl | (first | rfl | (rw [stP_start, selV_len]))), ?_⟩; refine ⟨.intE (by first | with_reducible rfl | (first | rfl | (rw [stP_start, selV_len]))), ?_⟩; refine ⟨.pvE (by first | with_reducible rfl | (first | rfl | (rw [stP_start, selV_len]))), ?_⟩; (iterate 8 refine ⟨.eq rfl rfl, ?_⟩); refine ⟨.pvE (by first | with_reducible rfl | (first | rfl | (rw [stP_start, selV_len]))), ?_⟩; exact trivial)) (by (refine ⟨WO.valsE rfl (by rw [stP_start]), ?_⟩; refine ⟨.box _ rfl ?_, ?_⟩; refine ⟨.intE (by first | with_reducible rfl | (first | rfl | (rw [stP_start, selV_len]))), ?_⟩; exact trivial; refine ⟨.loop rfl, ?_⟩; refine ⟨.box _ rfl ?_, ?_⟩; refine ⟨.pvE (by first | with_reducible rfl | (first | rfl | (rw [stP_start, selV_len]))), ?_⟩; exact trivial; refine ⟨.box _ rfl ?_, ?_⟩; refine ⟨.pvE (by first | with_reducible rfl | (first | rfl | (rw [stP_start, selV_len]))), ?_⟩; refine ⟨.intE (by first | with_reducible rfl | (first | rfl | (rw [stP_start, selV_len]))), ?_⟩; exact trivial; refine ⟨.box _ rfl ?_, ?_⟩; refine ⟨.pvE (by first | with_reducible rfl | (first | rfl | (rw [stP_start, selV_len]))), ?_⟩; refine ⟨.pvE (by first | with_reducible rfl | (first | rfl | (rw [stP_start, selV_len]))), ?_⟩; (iterate 2 refine ⟨.eq rfl rfl, ?_⟩); exact trivial; refine ⟨.box _ rfl ?_, ?_⟩; refine ⟨.eq rfl rfl, ?_⟩; exact trivial; refine ⟨.box _ rfl ?_, ?_⟩; refine ⟨.pvE (by first | with_reducible rfl | (first | rfl | (rw [stP_start, selV_len]))), ?_⟩; exact trivial; refine ⟨.box _ rfl ?_, ?_⟩; refine ⟨.pvE (by first | with_reducible rfl | (first | rfl | (rw [stP_start, selV_len]))), ?_⟩; refine ⟨.intE (by first | with_reducible rfl | (first | rfl | (rw [stP_start, selV_len]))), ?_⟩; exact trivial; refine ⟨.box _ rfl ?_, ?_⟩; refine ⟨.pvE (by first | with_reducible rfl | (first | rfl | (rw [stP_start, selV_len]))), ?_⟩; refine ⟨.pvE (by first | with_reducible rfl | (first | rfl | (rw [stP_start, selV_len]))), ?_⟩; (iterate 2 refine ⟨.eq rfl rfl, ?_⟩); (iterate 2 exact trivial))) rfl
  rintro s hs
  by_cases hlt : s < st
  · (refine zq ?_; refine zs ?_; refine zd ?_; refine zo ?_; refine zc ?_; refine AW.skip ?_; refine thenD_n ?_; refine zo ?_; refine AW.block ?_; refine zq ?_; refine nz ?_; refine zm ?_; refine za ?_; refine zd ?_; refine zq ?_; refine nz ?_; refine zm ?_; refine zn ?_; refine zm ?_; refine zd ?_; refine AW.block ?_)
    (refine nz ?_; apply AW.loopR [32, 31, 7, 28, 27, 6, 0, 2, 3, 1010, 1009, 1007, 1005, 1004, 1002] [9, 8, 7, 6, 4, 2, 1, 0] (fun k : Nat => ([(33, litI k)] : List (Nat × AV))) (fun k : Nat => ([(3, some (.mp (mpV (numF 0 (stP 0 st fr vr s k))))), (5, some (.box [litI (stP 0 st fr vr s k).length]))] : List (Nat × Option Ob))) (fun k : Nat => k ≤ fr.length) (fun k : Nat => fr.length - k) (0); (conv => lhs; simp only [Nf.lpR, Nf.all, Nat.reduceBEq, reduceAdd, reduceSub]); (all_goals skip))
    · exact Nat.zero_le _
    · exact weak rfl (by (refine ⟨.intE (by first | with_reducible rfl | (first | rfl)), ?_⟩; refine ⟨.intE (by first | with_reducible rfl | (first | rfl)), ?_⟩; refine ⟨.pvE (by first | with_reducible rfl | (first | rfl)), ?_⟩; (iterate 3 refine ⟨.intE (by first | with_reducible rfl | (first | rfl)), ?_⟩); refine ⟨.pvE (by first | with_reducible rfl | (first | rfl)), ?_⟩; (iterate 8 refine ⟨.eq rfl rfl, ?_⟩); refine ⟨.pvE (by first | with_reducible rfl | (first | rfl)), ?_⟩; exact trivial)) (by (refine ⟨WO.vals rfl, ?_⟩; refine ⟨.box _ rfl ?_, ?_⟩; refine ⟨.intE (by first | with_reducible rfl | (first | rfl)), ?_⟩; exact trivial; refine ⟨.loop rfl, ?_⟩; refine ⟨.box _ rfl ?_, ?_⟩; refine ⟨.pvE (by first | with_reducible rfl | (first | rfl)), ?_⟩; exact trivial; refine ⟨.box _ rfl ?_, ?_⟩; refine ⟨.pvE (by first | with_reducible rfl | (first | rfl)), ?_⟩; refine ⟨.intE (by first | with_reducible rfl | (first | rfl)), ?_⟩; exact trivial; refine ⟨.box _ rfl ?_, ?_⟩; (iterate 2 refine ⟨.pvE (by first | with_reducible rfl | (first | rfl)), ?_⟩); (iterate 2 refine ⟨.eq rfl rfl, ?_⟩); exact trivial; refine ⟨.box _ rfl ?_, ?_⟩; refine ⟨.eq rfl rfl, ?_⟩; exact trivial; refine ⟨.box _ rfl ?_, ?_⟩; refine ⟨.pvE (by first | with_reducible rfl | (first | rfl)), ?_⟩; exact trivial; refine ⟨.box _ rfl ?_, ?_⟩; refine ⟨.pvE (by first | with_reducible rfl | (first | rfl)), ?_⟩; refine ⟨.intE (by first | with_reducible rfl | (first | rfl)), ?_⟩; exact trivial; refine ⟨.box _ rfl ?_, ?_⟩; (iterate 2 refine ⟨.pvE (by first | with_reducible rfl | (first | rfl)), ?_⟩); (iterate 2 refine ⟨.eq rfl rfl, ?_⟩); (iterate 2 exact trivial))) rfl
    rintro k hk
    have hln := hlen s k hs
    by_cases hlt2 : k < fr.length
    · obtain ⟨hf0, hf1, hf2⟩ := hfd k hlt2
      have hlit := lenP (o := 0) (st := st) (vr := vr) s hlt2
      have hnum := numP (o := 0) (st := st) (vr := vr) s hlt2
      have hnew := stNew (st := st) (vr := vr) hfn hlt hlt2
      by_cases h0 : s = 0
      · have hlit := hlit (.inl h0)
        have hnum := hnum (.inl h0)
        have hnew := hnew (.inl h0)
        (refine zq ?_; refine zs ?_; refine zd ?_; refine zo ?_; refine zc ?_; refine AW.skip ?_; refine thenD_n ?_; refine zo ?_; refine AW.block ?_; refine zq ?_; refine nz ?_; (focus ((with_reducible apply AOps.index_map); (iterate 7 exact rfl); rotate_left; omega)); refine AOps.load_rn rfl rfl rfl rfl ?_; refine nz ?_; refine AOps.allocN' rfl rfl rfl rfl ?_; refine nz ?_; refine zB ?_; refine nz ?_; refine zd ?_; refine zq ?_; refine zm ?_; refine AOps.eql rfl rfl rfl rfl rfl ?_; refine zm ?_; (iterate 7 refine AOps.guardFn rfl rfl rfl rfl rfl rfl (by first | omega | decide) ?_); refine zT ?_; refine zm ?_; refine zl ?_; refine AOps.move rfl rfl rfl ?_; refine nz ?_; refine zl ?_; refine zm ?_; refine zl ?_; refine AOps.indexA_p 124 0 1 0 rfl rfl (by kernel_rfl) rfl rfl rfl rfl ?_; refine nz ?_; refine zl ?_; refine zb ?_; refine zl ?_; refine AOps.indexA_p 124 1 1 1 rfl rfl (by kernel_rfl) rfl rfl rfl rfl ?_; refine nz ?_; refine zl ?_; refine zb ?_; refine zl ?_; refine AOps.buildN 97 [0, 1, 2] rfl rfl rfl rfl rfl rfl rfl rfl rfl ?_; refine nz ?_; refine zl ?_; (with_reducible apply AOps.yieldN0 hcode0 hwtB hheld0 htm0'); (iterate 8 exact rfl); intro gR hroR_ hwtR hupR; (try refine nz ?_); refine AW.region ?_; refine AOps.allocN' rfl rfl rfl rfl ?_; refine nz ?_; refine zB ?_; refine nz ?_; refine zd ?_; refine And.intro (show isLp _ _ _ _ from ⟨_, _, _, _, rfl⟩) ?_; (try refine nz ?_); refine AW.block ?_; refine zq ?_; refine zb ?_; refine zj ?_; refine AOps.store_b1 rfl rfl rfl rfl rfl rfl rfl rfl rfl (by with_reducible assumption) ?_; refine nz ?_; refine zd ?_; refine AW.region ?_; refine zb ?_; refine zL ?_; refine nz ?_; refine zb ?_; refine AOps.mapUpdate_v rfl rfl rfl rfl rfl (by kernel_rfl) rfl rfl rfl rfl (by with_reducible assumption) (by with_reducible assumption) ?_; refine nz ?_; refine AOps.nil ?_; refine inBlockD_n ?_; (with_reducible apply roundEndsN_n); exact ⟨_, _, _, _, rfl⟩; refine nz ?_; refine zl ?_; refine AOps.not rfl rfl rfl ?_; refine AOps.pick_lt rfl rfl rfl rfl rfl rfl ?_; refine zd ?_; refine AW.cond_lf rfl rfl ?_; refine AW.skip ?_; refine inBlockD_n ?_; refine thenD_n ?_; refine AW.region ?_; refine nz ?_; refine zj ?_; refine zm ?_; refine zd ?_)
        exact ⟨k + 1, by omega, by omega, weak rfl (by (refine ⟨.intE (by first | with_reducible rfl | (first | rfl | (rw [hlit]))), ?_⟩; refine ⟨.intE (by first | with_reducible rfl | (first | rfl | (rw [hlit]))), ?_⟩; refine ⟨.pvE (by first | with_reducible rfl | (first | rfl | (rw [hlit]))), ?_⟩; refine ⟨.intE (by first | with_reducible rfl | (first | rfl | (rw [hlit]))), ?_⟩; refine ⟨.intE (by first | with_reducible rfl | (first | rfl | (rw [hlit]))), ?_⟩; refine ⟨.intE (by first | with_reducible rfl | (first | rfl | (rw [hlit]))), ?_⟩; refine ⟨.pvE (by first | with_reducible rfl | (first | rfl | (rw [hlit]))), ?_⟩; (iterate 8 refine ⟨.eq rfl rfl, ?_⟩); refine ⟨.pvE (by first | with_reducible rfl | (first | rfl | (rw [hlit]))), ?_⟩; exact trivial)) (by (refine ⟨WO.valsE rfl hnum.symm, ?_⟩; refine ⟨.box _ rfl ?_, ?_⟩; refine ⟨.intE (by first | with_reducible rfl | (first | rfl | (rw [hlit]))), ?_⟩; exact trivial; refine ⟨.loop rfl, ?_⟩; refine ⟨.box _ rfl ?_, ?_⟩; refine ⟨.pvE (by first | with_reducible rfl | (first | rfl | (rw [hlit]))), ?_⟩; exact trivial; refine ⟨.box _ rfl ?_, ?_⟩; refine ⟨.pvE (by first | with_reducible rfl | (first | rfl | (rw [hlit]))), ?_⟩; refine ⟨.intE (by first | with_reducible rfl | (first | rfl | (rw [hlit]))), ?_⟩; exact trivial; refine ⟨.box _ rfl ?_, ?_⟩; refine ⟨.pvE (by first | with_reducible rfl | (first | rfl | (rw [hlit]))), ?_⟩; refine ⟨.pvE (by first | with_reducible rfl | (first | rfl | (rw [hlit]))), ?_⟩; (iterate 2 refine ⟨.eq rfl rfl, ?_⟩); exact trivial; refine ⟨.box _ rfl ?_, ?_⟩; refine ⟨.eq rfl rfl, ?_⟩; exact trivial; refine ⟨.box _ rfl ?_, ?_⟩; refine ⟨.pvE (by first | with_reducible rfl | (first | rfl | (rw [hlit]))), ?_⟩; exact trivial; refine ⟨.box _ rfl ?_, ?_⟩; refine ⟨.pvE (by first | with_reducible rfl | (first | rfl | (rw [hlit]))), ?_⟩; refine ⟨.intE (by first | with_reducible rfl | (first | rfl | (rw [hlit]))), ?_⟩; exact trivial; refine ⟨.box _ rfl ?_, ?_⟩; refine ⟨.pvE (by first | with_reducible rfl | (first | rfl | (rw [hlit]))), ?_⟩; refine ⟨.pvE (by first | with_reducible rfl | (first | rfl | (rw [hlit]))), ?_⟩; (iterate 2 refine ⟨.eq rfl rfl, ?_⟩); (iterate 2 exact trivial))) rfl⟩
      · cases hb : fs[fr[k].1.toNat].var with
        | true =>
          have hlit := hlit (.inr (hf2.trans hb))
          have hnum := hnum (.inr (hf2.trans hb))
          have hnew := hnew (.inr (hf2.trans hb))
          (refine zq ?_; refine zs ?_; refine zd ?_; refine zo ?_; refine zc ?_; refine AW.skip ?_; refine thenD_n ?_; refine zo ?_; refine AW.block ?_; refine zq ?_; refine nz ?_; (focus ((with_reducible apply AOps.index_map); (iterate 7 exact rfl); rotate_left; omega)); refine AOps.load_rn rfl rfl rfl rfl ?_; refine nz ?_; refine AOps.allocN' rfl rfl rfl rfl ?_; refine nz ?_; refine zB ?_; refine nz ?_; refine zd ?_; refine zq ?_; refine zm ?_; refine AOps.eql rfl rfl rfl rfl rfl ?_; refine zm ?_; refine zy ?_; refine AOps.fieldAddrN 47 1 1 rfl rfl rfl rfl ?_; refine zy ?_; refine zb ?_; refine zy ?_; refine AOps.indexA_p 124 0 1 0 rfl rfl (by kernel_rfl) rfl rfl rfl rfl ?_; refine nz ?_; refine zy ?_; refine zb ?_; refine zy ?_; (focus ((with_reducible apply AOps.index_mapI); (iterate 7 exact rfl); omega; rotate_left; (first | omega | exact Nat.zero_lt_one | exact (by simp)))); refine zy ?_; refine AOps.fieldAddr_rN 71 2 2 1 rfl rfl rfl rfl ?_; refine nz ?_; refine zy ?_; refine zr ?_; refine zF ?_; refine zm ?_; refine AOps.guard_lt rfl rfl rfl rfl rfl (by assumption) rfl ?_; refine AOps.move rfl rfl rfl ?_; refine nz ?_; refine AOps.guard_lt rfl rfl rfl rfl rfl (by assumption) rfl ?_; refine zm ?_; refine AOps.guard_lt rfl rfl rfl rfl rfl (by assumption) rfl ?_; refine AOps.indexA_p 124 0 1 0 rfl rfl (by kernel_rfl) rfl rfl rfl rfl ?_; refine nz ?_; refine AOps.guard_lt rfl rfl rfl rfl rfl (by assumption) rfl ?_; refine zb ?_; refine AOps.guard_lt rfl rfl rfl rfl rfl (by assumption) rfl ?_; refine AOps.indexA_p 124 1 1 1 rfl rfl (by kernel_rfl) rfl rfl rfl rfl ?_; refine nz ?_; refine AOps.guard_lt rfl rfl rfl rfl rfl (by assumption) rfl ?_; refine zb ?_; refine AOps.guard_lt rfl rfl rfl rfl rfl (by assumption) rfl ?_; refine AOps.buildN 97 [0, 1, 2] rfl rfl rfl rfl rfl rfl rfl rfl rfl ?_; refine nz ?_; refine AOps.guard_lt rfl rfl rfl rfl rfl (by assumption) rfl ?_; (with_reducible apply AOps.yieldN0 hcode0 hwtB hheld0 htm0'); (iterate 8 exact rfl); intro gR hroR_ hwtR hupR; (try refine nz ?_); refine AW.region ?_; refine AOps.allocN' rfl rfl rfl rfl ?_; refine nz ?_; refine zB ?_; refine nz ?_; refine zd ?_; refine And.intro (show isLp _ _ _ _ from ⟨_, _, _, _, rfl⟩) ?_; (try refine nz ?_); refine AW.block ?_; refine zq ?_; refine zb ?_; refine zj ?_; refine AOps.store_b1 rfl rfl rfl rfl rfl rfl rfl rfl rfl (by with_reducible assumption) ?_; refine nz ?_; refine zd ?_; refine AW.region ?_; refine zb ?_; refine zL ?_; refine nz ?_; refine zb ?_; refine AOps.mapUpdate_v rfl rfl rfl rfl rfl (by kernel_rfl) rfl rfl rfl rfl (by with_reducible assumption) (by with_reducible assumption) ?_; refine nz ?_; refine AOps.nil ?_; refine inBlockD_n ?_; (with_reducible apply roundEndsN_n); exact ⟨_, _, _, _, rfl⟩; refine nz ?_; refine AOps.guard_lt rfl rfl rfl rfl rfl (by assumption) rfl ?_; refine AOps.not rfl rfl rfl ?_; refine AOps.pickBt rfl rfl (by assumption) rfl rfl rfl rfl ?_; refine zd ?_; refine AW.cond_lf rfl rfl ?_; refine AW.skip ?_; refine inBlockD_n ?_; refine thenD_n ?_; refine AW.region ?_; refine nz ?_; refine zj ?_; refine zm ?_; refine zd ?_)
          exact ⟨k + 1, by omega, by omega, weak rfl (by (refine ⟨.intE (by first | with_reducible rfl | (first | rfl | (rw [hlit]))), ?_⟩; refine ⟨.intE (by first | with_reducible rfl | (first | rfl | (rw [hlit]))), ?_⟩; refine ⟨.pvE (by first | with_reducible rfl | (first | rfl | (rw [hlit]))), ?_⟩; refine ⟨.intE (by first | with_reducible rfl | (first | rfl | (rw [hlit]))), ?_⟩; refine ⟨.intE (by first | with_reducible rfl | (first | rfl | (rw [hlit]))), ?_⟩; refine ⟨.intE (by first | with_reducible rfl | (first | rfl | (rw [hlit]))), ?_⟩; refine ⟨.pvE (by first | with_reducible rfl | (first | rfl | (rw [hlit]))), ?_⟩; (iterate 8 refine ⟨.eq rfl rfl, ?_⟩); refine ⟨.pvE (by first | with_reducible rfl | (first | rfl | (rw [hlit]))), ?_⟩; exact trivial)) (by (refine ⟨WO.valsE rfl hnum.symm, ?_⟩; refine ⟨.box _ rfl ?_, ?_⟩; refine ⟨.intE (by first | with_reducible rfl | (first | rfl | (rw [hlit]))), ?_⟩; exact trivial; refine ⟨.loop rfl, ?_⟩; refine ⟨.box _ rfl ?_, ?_⟩; refine ⟨.pvE (by first | with_reducible rfl | (first | rfl | (rw [hlit]))), ?_⟩; exact trivial; refine ⟨.box _ rfl ?_, ?_⟩; refine ⟨.pvE (by first | with_reducible rfl | (first | rfl | (rw [hlit]))), ?_⟩; refine ⟨.intE (by first | with_reducible rfl | (first | rfl | (rw [hlit]))), ?_⟩; exact trivial; refine ⟨.box _ rfl ?_, ?_⟩; refine ⟨.pvE (by first | with_reducible rfl | (first | rfl | (rw [hlit]))), ?_⟩; refine ⟨.pvE (by first | with_reducible rfl | (first | rfl | (rw [hlit]))), ?_⟩; (iterate 2 refine ⟨.eq rfl rfl, ?_⟩); exact trivial; refine ⟨.box _ rfl ?_, ?_⟩; refine ⟨.eq rfl rfl, ?_⟩; exact trivial; refine ⟨.box _ rfl ?_, ?_⟩; refine ⟨.pvE (by first | with_reducible rfl | (first | rfl | (rw [hlit]))), ?_⟩; exact trivial; refine ⟨.box _ rfl ?_, ?_⟩; refine ⟨.pvE (by first | with_reducible rfl | (first | rfl | (rw [hlit]))), ?_⟩; refine ⟨.intE (by first | with_reducible rfl | (first | rfl | (rw [hlit]))), ?_⟩; exact trivial; refine ⟨.box _ rfl ?_, ?_⟩; refine ⟨.pvE (by first | with_reducible rfl | (first | rfl | (rw [hlit]))), ?_⟩; refine ⟨.pvE (by first | with_reducible rfl | (first | rfl | (rw [hlit]))), ?_⟩; (iterate 2 refine ⟨.eq rfl rfl, ?_⟩); (iterate 2 exact trivial))) rfl⟩
        | false =>
          have hst := stayP (o := 0) (st := st) (vr := vr) s hlt2 (fun h => h.elim h0 fun h => by rw [hf2.trans hb] at h; cases h)
          (refine zq ?_; refine zs ?_; refine zd ?_; refine zo ?_; refine zc ?_; refine AW.skip ?_; refine thenD_n ?_; refine zo ?_; refine AW.block ?_; refine zq ?_; refine nz ?_; (focus ((with_reducible apply AOps.index_map); (iterate 7 exact rfl); rotate_left; omega)); refine AOps.load_rn rfl rfl rfl rfl ?_; refine nz ?_; refine AOps.allocN' rfl rfl rfl rfl ?_; refine nz ?_; refine zB ?_; refine nz ?_; refine zd ?_; refine zq ?_; refine zm ?_; refine AOps.eql rfl rfl rfl rfl rfl ?_; refine zm ?_; refine zy ?_; refine AOps.fieldAddrN 47 1 1 rfl rfl rfl rfl ?_; refine zy ?_; refine zb ?_; refine zy ?_; refine AOps.indexA_p 124 0 1 0 rfl rfl (by kernel_rfl) rfl rfl rfl rfl ?_; refine nz ?_; refine zy ?_; refine zb ?_; refine zy ?_; (focus ((with_reducible apply AOps.index_mapI); (iterate 7 exact rfl); omega; rotate_left; (first | omega | exact Nat.zero_lt_one | exact (by simp)))); refine zy ?_; refine AOps.fieldAddr_rN 71 2 2 1 rfl rfl rfl rfl ?_; refine nz ?_; refine zy ?_; refine zr ?_; refine zF ?_; refine zm ?_; (iterate 9 refine AOps.guard_lf rfl rfl rfl rfl rfl (by assumption) rfl ?_); refine AOps.pickBf rfl rfl (by assumption) rfl rfl rfl rfl ?_; refine zd ?_; refine AW.cond_lf rfl rfl ?_; refine AW.skip ?_; refine inBlockD_n ?_; refine thenD_n ?_; refine AW.region ?_; refine nz ?_; refine zj ?_; refine zm ?_; refine zd ?_)
          exact ⟨k + 1, by omega, by omega, weak rfl (by (refine ⟨.intE (by first | with_reducible rfl | (first | rfl | (rw [hst]))), ?_⟩; refine ⟨.intE (by first | with_reducible rfl | (first | rfl | (rw [hst]))), ?_⟩; refine ⟨.pvE (by first | with_reducible rfl | (first | rfl | (rw [hst]))), ?_⟩; refine ⟨.intE (by first | with_reducible rfl | (first | rfl | (rw [hst]))), ?_⟩; refine ⟨.intE (by first | with_reducible rfl | (first | rfl | (rw [hst]))), ?_⟩; refine ⟨.intE (by first | with_reducible rfl | (first | rfl | (rw [hst]))), ?_⟩; refine ⟨.pvE (by first | with_reducible rfl | (first | rfl | (rw [hst]))), ?_⟩; (iterate 8 refine ⟨.eq rfl rfl, ?_⟩); refine ⟨.pvE (by first | with_reducible rfl | (first | rfl | (rw [hst]))), ?_⟩; exact trivial)) (by (refine ⟨WO.valsE rfl (by rw [hst]), ?_⟩; refine ⟨.box _ rfl ?_, ?_⟩; refine ⟨.intE (by first | with_reducible rfl | (first | rfl | (rw [hst]))), ?_⟩; exact trivial; refine ⟨.loop rfl, ?_⟩; refine ⟨.box _ rfl ?_, ?_⟩; refine ⟨.pvE (by first | with_reducible rfl | (first | rfl | (rw [hst]))), ?_⟩; exact trivial; refine ⟨.box _ rfl ?_, ?_⟩; refine ⟨.pvE (by first | with_reducible rfl | (first | rfl | (rw [hst]))), ?_⟩; refine ⟨.intE (by first | with_reducible rfl | (first | rfl | (rw [hst]))), ?_⟩; exact trivial; refine ⟨.box _ rfl ?_, ?_⟩; refine ⟨.pvE (by first | with_reducible rfl | (first | rfl | (rw [hst]))), ?_⟩; refine ⟨.pvE (by first | with_reducible rfl | (first | rfl | (rw [hst]))), ?_⟩; (iterate 2 refine ⟨.eq rfl rfl, ?_⟩); exact trivial; refine ⟨.box _ rfl ?_, ?_⟩; refine ⟨.eq rfl rfl, ?_⟩; exact trivial; refine ⟨.box _ rfl ?_, ?_⟩; refine ⟨.pvE (by first | with_reducible rfl | (first | rfl | (rw [hst]))), ?_⟩; exact trivial; refine ⟨.box _ rfl ?_, ?_⟩; refine ⟨.pvE (by first | with_reducible rfl | (first | rfl | (rw [hst]))), ?_⟩; refine ⟨.intE (by first | with_reducible rfl | (first | rfl | (rw [hst]))), ?_⟩; exact trivial; refine ⟨.box _ rfl ?_, ?_⟩; refine ⟨.pvE (by first | with_reducible rfl | (first | rfl | (rw [hst]))), ?_⟩; refine ⟨.pvE (by first | with_reducible rfl | (first | rfl | (rw [hst]))), ?_⟩; (iterate 2 refine ⟨.eq rfl rfl, ?_⟩); (iterate 2 exact trivial))) rfl⟩
    · obtain rfl : k = fr.length := by omega
      have hnx := stP_next 0 st fr vr s
      (refine zq ?_; refine zs ?_; refine zd ?_; refine zo ?_; refine zk ?_; refine AW.exit ?_; (iterate 2 refine thenD_exit ?_); refine inBlockD_exit ?_; refine inBlockD_n ?_; refine thenD_n ?_; refine AW.region ?_; refine nz ?_; refine zj ?_; refine zm ?_; refine zd ?_)
      exact ⟨s + 1, by omega, by omega, weak rfl (by (refine ⟨.intE (by first | with_reducible rfl | (first | rfl | (rw [hnx]))), ?_⟩; refine ⟨.intE (by first | with_reducible rfl | (first | rfl | (rw [hnx]))), ?_⟩; refine ⟨.pvE (by first | with_reducible rfl | (first | rfl | (rw [hnx]))), ?_⟩; (iterate 8 refine ⟨.eq rfl rfl, ?_⟩); refine ⟨.pvE (by first | with_reducible rfl | (first | rfl | (rw [hnx]))), ?_⟩; exact trivial)) (by (refine ⟨WO.valsE rfl (by rw [hnx]), ?_⟩; refine ⟨.box _ rfl ?_, ?_⟩; refine ⟨.intE (by first | with_reducible rfl | (first | rfl | (rw [hnx]))), ?_⟩; exact trivial; refine ⟨.loop rfl, ?_⟩; refine ⟨.box _ rfl ?_, ?_⟩; refine ⟨.pvE (by first | with_reducible rfl | (first | rfl | (rw [hnx]))), ?_⟩; exact trivial; refine ⟨.box _ rfl ?_, ?_⟩; refine ⟨.pvE (by first | with_reducible rfl | (first | rfl | (rw [hnx]))), ?_⟩; refine ⟨.intE (by first | with_reducible rfl | (first | rfl | (rw [hnx]))), ?_⟩; exact trivial; refine ⟨.box _ rfl ?_, ?_⟩; refine ⟨.pvE (by first | with_reducible rfl | (first | rfl | (rw [hnx]))), ?_⟩; refine ⟨.pvE (by first | with_reducible rfl | (first | rfl | (rw [hnx]))), ?_⟩; (iterate 2 refine ⟨.eq rfl rfl, ?_⟩); exact trivial; refine ⟨.box _ rfl ?_, ?_⟩; refine ⟨.eq rfl rfl, ?_⟩; exact trivial; refine ⟨.box _ rfl ?_, ?_⟩; refine ⟨.pvE (by first | with_reducible rfl | (first | rfl | (rw [hnx]))), ?_⟩; exact trivial; refine ⟨.box _ rfl ?_, ?_⟩; refine ⟨.pvE (by first | with_reducible rfl | (first | rfl | (rw [hnx]))), ?_⟩; refine ⟨.intE (by first | with_reducible rfl | (first | rfl | (rw [hnx]))), ?_⟩; exact trivial; refine ⟨.box _ rfl ?_, ?_⟩; refine ⟨.pvE (by first | with_reducible rfl | (first | rfl | (rw [hnx]))), ?_⟩; refine ⟨.pvE (by first | with_reducible rfl | (first | rfl | (rw [hnx]))), ?_⟩; (iterate 2 refine ⟨.eq rfl rfl, ?_⟩); (iterate 2 exact trivial))) rfl⟩
  · obtain rfl : st = s := by omega
    rw [stP_end]
    have hVm := h.mem
    have hfv : vrF fs = vr := hvr
    simp only [hfr, hfv] at hVm
    have hlv : litV 0 p.length (arF fs) st vr bs p = outL (varsM 0 st fr vr) (actV p.length (arF fs) p) (varsM 0 st fr vr) := by
      rw [outL_all hVm]; unfold litV; rw [hfr]
    rw [hlv, ← stP_end]
    have hfS : ∀ v : VarT, v.1 < 0 → actV p.length (arF fs) p v = v := fun v hv => by unfold actV; rw [if_neg (by omega)]
    have hfP : ∀ (s k : Nat) (hk : k < fr.length), actV p.length (arF fs) p ((s : Int), fr[k].1, fr[k].2) = ((s : Int), fr[k].1, imgR p.length p (arF fs fr[k].1) fr[k].2) := fun s k hk => by unfold actV; rw [if_pos (by show (0 : Int) ≤ s; omega)]
    have harf : ∀ (k : Nat) (hk : k < fr.length) (hh : fr[k].1.toNat < fs.length), arF fs fr[k].1 = fs[fr[k].1.toNat].sorts.length := fun k hk hh => by unfold arF; rw [getD_of hh]
    obtain ⟨srt, hpa⟩ := h.pa
    have hpr : ∀ (ar : Nat) (t : Int), ar ≤ 3 → (0 ≤ t ∧ t ≤ 1000000) → Fn Try.prog 42 [scp at' (st : Int), .pv (ints p), relA ((ar : Int), [t])] (relA ((ar : Int), [imgR p.length p ar t])) := fun ar t ha ht => by
      have := pRel_fn at' st p ar [t] hpa h.pl.1 h.pl.2 ha (fun x hx => by rw [List.mem_singleton] at hx; rw [hx]; exact ht) (by simp)
      rwa [List.map_singleton, sortL_one] at this
    generalize hF : actV p.length (arF fs) p = F at hfS hfP ⊢
    generalize hV : stP 0 st fr vr st 0 = V
    (refine zq ?_; refine zs ?_; refine zd ?_; refine zo ?_; refine zk ?_; refine AW.exit ?_; (iterate 2 refine thenD_exit ?_); refine inBlockD_exit ?_; refine iterEndsN_ready (.inl rfl) rfl ?_; (try refine nz ?_); refine inBlockD_n ?_; refine thenD_n ?_; refine zq ?_; refine AOps.allocN' rfl rfl rfl rfl ?_; refine nz ?_; refine zd ?_; refine zo ?_; refine zq ?_; refine zL ?_; refine nz ?_; refine zL ?_; refine nz ?_; refine zm ?_; (with_reducible apply AOps.inline (hf := Try.func41)); (with_reducible assumption); (iterate 10 exact rfl); intro g_ hro_ hwt_; refine nz ?_; refine zq ?_; refine AOps.box rfl rfl rfl rfl ?_; refine nz ?_; refine AOps.box rfl rfl rfl rfl ?_; refine nz ?_; refine AOps.box rfl rfl rfl rfl ?_; refine nz ?_; refine za ?_; refine zd ?_; refine zq ?_; refine nz ?_; refine AOps.makeFunc_3 rfl rfl rfl rfl rfl rfl rfl ?_; refine AOps.assign rfl rfl rfl ?_; refine nz ?_; refine zd ?_; refine AW.ret ?_; refine inlEnds_rclo rfl rfl ?_; refine nz ?_; refine zd ?_; refine AW.block ?_)
    refine AW.rangeFuncUH (ps := [30]) (by assumption) (by assumption) rfl rfl Try.func67 rfl rfl rfl rfl rfl rfl (by decide) ?_
    intro gC tm1 l1 ps1 asg1 body1 hcode1 hroC hwtC hheld1 hupC htm1
    have htm1' : tm1.size = 61 := htm1
    refine AW.cut (δc := { n := 61, env := [(0, .yld 14), (1, .ptr 12 0), (2, .ptr 13 0), (3, .ptr 11 0), (1012, .ptr 10 0), (1009, .ptr 4 0), (1007, .ptr 2 0), (1005, .ptr 1 0), (1004, .ptr 0 0)], objs := [(10, some (.box [.own 15 3 1 ((outL V F (selV 0 (selN st))).map encI)])), (15, some .row), (14, some (.loop l1 tm1 ps1 asg1 body1 .ready)), (13, some (.box [.pv (bnds bs)])), (12, some (.box [.pv (ints at'), litI st])), (11, some (.box [.pv (.slice 2 (so.map encSo)), .pv (.slice 3 (fs.map encF)), slv pr, slv fa])), (3, some (.mp (mpV (numF 0 V)))), (4, some (.box [.mapr 3])), (2, some (.box [.pv (ints p)])), (1, some (.box [.pv (ints at'), litI st])), (0, some (.box [.pv (.slice 2 (so.map encSo)), .pv (.slice 3 (fs.map encF)), slv pr, slv fa]))], nx := 16 }) ?_ ?_
    · by_cases h1 : 1 < st
      · have hsn : selN st = st := if_pos h1
        rw [hsn]
        (refine zq ?_; refine nz ?_; refine AOps.fieldAddrN 49 1 1 rfl rfl rfl rfl ?_; refine zb ?_; refine AOps.gtr rfl rfl rfl rfl rfl ?_; refine zd ?_; refine zc ?_; refine zq ?_; refine nz ?_; refine AOps.fieldAddrN 49 1 1 rfl rfl rfl rfl ?_; refine zb ?_; refine zm ?_; refine zd ?_; refine AW.block ?_)
        (refine nz ?_; apply AW.loopR [14, 0, 1, 2, 3, 1012, 1009, 1007, 1005, 1004] [14, 13, 12, 11, 3, 4, 2, 1, 0] (fun k : Nat => ([(15, litI k)] : List (Nat × AV))) (fun k : Nat => ([(10, some (.box [.own 15 3 1 ((outL V F (selV 0 k)).map encI)])), (15, some .row)] : List (Nat × Option Ob))) (fun k : Nat => k ≤ st) (fun k : Nat => st - k) (0); (conv => lhs; simp only [Nf.lpR, Nf.all, Nat.reduceBEq, reduceAdd, reduceSub]); (all_goals skip))
        · exact Nat.zero_le _
        · rw [outS0]
          exact weak rfl (by (refine ⟨.intE (by first | with_reducible rfl | (first | rfl)), ?_⟩; refine ⟨.intE (by first | with_reducible rfl | (first | rfl)), ?_⟩; (iterate 9 refine ⟨.eq rfl rfl, ?_⟩); exact trivial)) (by (refine ⟨.box _ rfl ?_, ?_⟩; refine ⟨.nilown _ _ _ rfl rfl, ?_⟩; exact trivial; refine ⟨.newrow rfl, ?_⟩; refine ⟨.loop rfl, ?_⟩; refine ⟨.box _ rfl ?_, ?_⟩; refine ⟨.pvE (by first | with_reducible rfl | (first | rfl)), ?_⟩; exact trivial; refine ⟨.box _ rfl ?_, ?_⟩; refine ⟨.pvE (by first | with_reducible rfl | (first | rfl)), ?_⟩; refine ⟨.intE (by first | with_reducible rfl | (first | rfl)), ?_⟩; exact trivial; refine ⟨.box _ rfl ?_, ?_⟩; (iterate 2 refine ⟨.pvE (by first | with_reducible rfl | (first | rfl)), ?_⟩); (iterate 2 refine ⟨.eq rfl rfl, ?_⟩); exact trivial; refine ⟨WO.vals rfl, ?_⟩; refine ⟨.box _ rfl ?_, ?_⟩; refine ⟨.eq rfl rfl, ?_⟩; exact trivial; refine ⟨.box _ rfl ?_, ?_⟩; refine ⟨.pvE (by first | with_reducible rfl | (first | rfl)), ?_⟩; exact trivial; refine ⟨.box _ rfl ?_, ?_⟩; refine ⟨.pvE (by first | with_reducible rfl | (first | rfl)), ?_⟩; refine ⟨.intE (by first | with_reducible rfl | (first | rfl)), ?_⟩; exact trivial; refine ⟨.box _ rfl ?_, ?_⟩; (iterate 2 refine ⟨.pvE (by first | with_reducible rfl | (first | rfl)), ?_⟩); (iterate 2 refine ⟨.eq rfl rfl, ?_⟩); (iterate 2 exact trivial))) rfl
        rintro k hk
        have hol := outL_len V F (selV 0 k)
        rw [selV_len] at hol
        by_cases hlt : k < st
        · have hos := outS V F hfS k
          (refine zq ?_; refine zs ?_; refine zd ?_; refine zo ?_; refine zc ?_; refine AW.skip ?_; refine thenD_n ?_; refine zo ?_; refine AW.block ?_; refine zq ?_; refine nz ?_; refine zm ?_; refine za ?_; refine zd ?_; refine zq ?_; refine nz ?_; refine AOps.move rfl rfl rfl ?_; refine nz ?_; refine zm ?_; refine AOps.buildN 97 [0, 2] rfl rfl rfl rfl rfl rfl rfl rfl rfl ?_; refine nz ?_; (with_reducible apply AOps.yieldN0 hcode1 hwtC hheld1 htm1'); (iterate 8 exact rfl); intro gR hroR_ hwtR hupR; (try refine nz ?_); refine AW.region ?_; refine AOps.allocN' rfl rfl rfl rfl ?_; refine nz ?_; refine zB ?_; refine nz ?_; refine zd ?_; refine And.intro (show isLp _ _ _ _ from ⟨_, _, _, _, rfl⟩) ?_; (try refine nz ?_); refine AW.block ?_; refine zo ?_; refine zq ?_; refine AOps.fieldAddrN 97 0 0 rfl rfl rfl rfl ?_; refine zb ?_; refine AOps.geq rfl rfl rfl rfl rfl ?_; refine zd ?_; refine AW.cond_lf rfl rfl ?_; refine AW.skip ?_; refine thenD_n ?_; refine AW.regionM [0, 1, 2, 3] [6] rfl (by assumption) (by kernel_rfl) (by kernel_rfl) rfl ?_; show AOps .held _ _ _ [_, _, _, _] _ _; (iterate 2 refine zb ?_); refine zL ?_; refine nz ?_; refine AOps.lookup_v rfl rfl rfl rfl (by kernel_rfl) rfl rfl rfl rfl ?_; refine AOps.nil ?_; refine onlyN_n ?_; intro k_ hk_; refine nz ?_; refine AR.step1M (i := 4) rfl (by kernel_rfl) rfl ?_; intro g_ hgro_ hw_; refine AOps.bs1 rfl rfl rfl rfl rfl rfl rfl rfl ?_; refine nz ?_; refine AOps.nil ?_; refine onlyN_n ?_; refine AR.step1M (i := 5) rfl (by kernel_rfl) rfl ?_; intro g_ hgro_ hw_; (with_reducible apply AOps.appendS); exact rfl; (first | exact .pv rfl | exact .own rfl | exact .nil rfl); (iterate 9 exact rfl); (first | omega | (simp only [List.length_map, List.length_append, List.length_cons, List.length_nil, List.length_drop, List.length_take, List.length_set, chunk_len]; omega)); refine nz ?_; refine AOps.nil ?_; refine onlyN_n ?_; refine AR.step1LM (i := 6) rfl (by kernel_rfl) rfl (by kernel_rfl) ?_; intro g_ hgro_ hwt2_; refine AOps.store_b1 rfl rfl rfl rfl rfl rfl rfl rfl rfl (by with_reducible assumption) ?_; refine nz ?_; refine AOps.nil ?_; refine onlyN_n ?_; refine AR.doneM (by assumption) (by kernel_rfl) ?_; refine inBlockD_n ?_; (with_reducible apply roundEndsN_n); exact ⟨_, _, _, _, rfl⟩; refine nz ?_; refine AOps.not rfl rfl rfl ?_; refine zd ?_; refine AW.cond_lf rfl rfl ?_; refine AW.skip ?_; refine inBlockD_n ?_; refine thenD_n ?_; refine AW.region ?_; refine nz ?_; refine zj ?_; refine zm ?_; refine zd ?_)
          exact ⟨k + 1, by omega, by omega, weak rfl (by (refine ⟨.intE (by first | with_reducible rfl | (first | rfl | (rw [hos, List.map_append]; rfl))), ?_⟩; refine ⟨.intE (by first | with_reducible rfl | (first | rfl | (rw [hos, List.map_append]; rfl))), ?_⟩; (iterate 9 refine ⟨.eq rfl rfl, ?_⟩); exact trivial)) (by (refine ⟨.box _ rfl ?_, ?_⟩; refine ⟨.ownE (by first | with_reducible rfl | (first | rfl | (rw [hos, List.map_append]; rfl))) rfl, ?_⟩; exact trivial; refine ⟨.row rfl, ?_⟩; refine ⟨.loop rfl, ?_⟩; refine ⟨.box _ rfl ?_, ?_⟩; refine ⟨.pvE (by first | with_reducible rfl | (first | rfl | (rw [hos, List.map_append]; rfl))), ?_⟩; exact trivial; refine ⟨.box _ rfl ?_, ?_⟩; refine ⟨.pvE (by first | with_reducible rfl | (first | rfl | (rw [hos, List.map_append]; rfl))), ?_⟩; refine ⟨.intE (by first | with_reducible rfl | (first | rfl | (rw [hos, List.map_append]; rfl))), ?_⟩; exact trivial; refine ⟨.box _ rfl ?_, ?_⟩; refine ⟨.pvE (by first | with_reducible rfl | (first | rfl | (rw [hos, List.map_append]; rfl))), ?_⟩; refine ⟨.pvE (by first | with_reducible rfl | (first | rfl | (rw [hos, List.map_append]; rfl))), ?_⟩; (iterate 2 refine ⟨.eq rfl rfl, ?_⟩); exact trivial; refine ⟨WO.vals rfl, ?_⟩; refine ⟨.box _ rfl ?_, ?_⟩; refine ⟨.eq rfl rfl, ?_⟩; exact trivial; refine ⟨.box _ rfl ?_, ?_⟩; refine ⟨.pvE (by first | with_reducible rfl | (first | rfl | (rw [hos, List.map_append]; rfl))), ?_⟩; exact trivial; refine ⟨.box _ rfl ?_, ?_⟩; refine ⟨.pvE (by first | with_reducible rfl | (first | rfl | (rw [hos, List.map_append]; rfl))), ?_⟩; refine ⟨.intE (by first | with_reducible rfl | (first | rfl | (rw [hos, List.map_append]; rfl))), ?_⟩; exact trivial; refine ⟨.box _ rfl ?_, ?_⟩; refine ⟨.pvE (by first | with_reducible rfl | (first | rfl | (rw [hos, List.map_append]; rfl))), ?_⟩; refine ⟨.pvE (by first | with_reducible rfl | (first | rfl | (rw [hos, List.map_append]; rfl))), ?_⟩; (iterate 2 refine ⟨.eq rfl rfl, ?_⟩); (iterate 2 exact trivial))) rfl⟩
        · obtain rfl : k = st := by omega
          (refine zq ?_; refine zs ?_; refine zd ?_; refine zo ?_; refine zk ?_; refine AW.exit ?_; (iterate 2 refine thenD_exit ?_); refine inBlockD_exit ?_; refine onlyN_n ?_)
          show Weak _ _ _
          exact weak rfl (by (refine ⟨.eq rfl rfl, ?_⟩; (iterate 8 refine ⟨.eq rfl rfl, ?_⟩); exact trivial)) (by (refine ⟨.box _ rfl ?_, ?_⟩; refine ⟨.ownE (by first | with_reducible rfl | (first | rfl)) rfl, ?_⟩; exact trivial; refine ⟨.row rfl, ?_⟩; refine ⟨.loop rfl, ?_⟩; refine ⟨.box _ rfl ?_, ?_⟩; refine ⟨.pvE (by first | with_reducible rfl | (first | rfl)), ?_⟩; exact trivial; refine ⟨.box _ rfl ?_, ?_⟩; refine ⟨.pvE (by first | with_reducible rfl | (first | rfl)), ?_⟩; refine ⟨.intE (by first | with_reducible rfl | (first | rfl)), ?_⟩; exact trivial; refine ⟨.box _ rfl ?_, ?_⟩; (iterate 2 refine ⟨.pvE (by first | with_reducible rfl | (first | rfl)), ?_⟩); (iterate 2 refine ⟨.eq rfl rfl, ?_⟩); exact trivial; refine ⟨WO.vals rfl, ?_⟩; refine ⟨.box _ rfl ?_, ?_⟩; refine ⟨.eq rfl rfl, ?_⟩; exact trivial; refine ⟨.box _ rfl ?_, ?_⟩; refine ⟨.pvE (by first | with_reducible rfl | (first | rfl)), ?_⟩; exact trivial; refine ⟨.box _ rfl ?_, ?_⟩; refine ⟨.pvE (by first | with_reducible rfl | (first | rfl)), ?_⟩; refine ⟨.intE (by first | with_reducible rfl | (first | rfl)), ?_⟩; exact trivial; refine ⟨.box _ rfl ?_, ?_⟩; (iterate 2 refine ⟨.pvE (by first | with_reducible rfl | (first | rfl)), ?_⟩); (iterate 2 refine ⟨.eq rfl rfl, ?_⟩); (iterate 2 exact trivial))) rfl
      · have hsn : selN st = 0 := if_neg h1
        rw [hsn, outS0]
        (refine zq ?_; refine nz ?_; refine AOps.fieldAddrN 49 1 1 rfl rfl rfl rfl ?_; refine zb ?_; refine AOps.gtr rfl rfl rfl rfl rfl ?_; refine zd ?_; refine zk ?_; refine AW.skip ?_; refine onlyN_n ?_)
        show Weak _ _ _
        exact weak rfl (by (refine ⟨.eq rfl rfl, ?_⟩; (iterate 8 refine ⟨.eq rfl rfl, ?_⟩); exact trivial)) (by (refine ⟨.box _ rfl ?_, ?_⟩; refine ⟨.nilown _ _ _ rfl rfl, ?_⟩; exact trivial; refine ⟨.newrow rfl, ?_⟩; refine ⟨.loop rfl, ?_⟩; refine ⟨.box _ rfl ?_, ?_⟩; refine ⟨.pvE (by first | with_reducible rfl | (first | rfl)), ?_⟩; exact trivial; refine ⟨.box _ rfl ?_, ?_⟩; refine ⟨.pvE (by first | with_reducible rfl | (first | rfl)), ?_⟩; refine ⟨.intE (by first | with_reducible rfl | (first | rfl)), ?_⟩; exact trivial; refine ⟨.box _ rfl ?_, ?_⟩; (iterate 2 refine ⟨.pvE (by first | with_reducible rfl | (first | rfl)), ?_⟩); (iterate 2 refine ⟨.eq rfl rfl, ?_⟩); exact trivial; refine ⟨WO.vals rfl, ?_⟩; refine ⟨.box _ rfl ?_, ?_⟩; refine ⟨.eq rfl rfl, ?_⟩; exact trivial; refine ⟨.box _ rfl ?_, ?_⟩; refine ⟨.pvE (by first | with_reducible rfl | (first | rfl)), ?_⟩; exact trivial; refine ⟨.box _ rfl ?_, ?_⟩; refine ⟨.pvE (by first | with_reducible rfl | (first | rfl)), ?_⟩; refine ⟨.intE (by first | with_reducible rfl | (first | rfl)), ?_⟩; exact trivial; refine ⟨.box _ rfl ?_, ?_⟩; (iterate 2 refine ⟨.pvE (by first | with_reducible rfl | (first | rfl)), ?_⟩); (iterate 2 refine ⟨.eq rfl rfl, ?_⟩); (iterate 2 exact trivial))) rfl
    (refine zq ?_; refine zb ?_; refine zP (hfree) ?_; refine za ?_; refine zd ?_; refine zq ?_; refine nz ?_; refine AOps.fieldAddrN 49 1 1 rfl rfl rfl rfl ?_; refine zb ?_; refine zm ?_; refine zd ?_; refine AW.block ?_)
    (refine nz ?_; apply AW.loopR [27, 6, 0, 2, 3, 1012, 1009, 1007, 1005, 1004] [14, 13, 12, 11, 3, 4, 2, 1, 0] (fun s : Nat => ([(28, litI s)] : List (Nat × AV))) (fun s : Nat => ([(10, some (.box [.own 15 3 1 ((outL V F (stP 0 st fr vr s 0)).map encI)])), (15, some .row)] : List (Nat × Option Ob))) (fun s : Nat => s ≤ st) (fun s : Nat => st - s) (0); (conv => lhs; simp only [Nf.lpR, Nf.all, Nat.reduceBEq, reduceAdd, reduceSub]); (all_goals skip))
    · exact Nat.zero_le _
    · rw [stP_start]
      exact weak rfl (by (refine ⟨.intE (by first | with_reducible rfl | (first | rfl)), ?_⟩; refine ⟨.intE (by first | with_reducible rfl | (first | rfl)), ?_⟩; refine ⟨.pvE (by first | with_reducible rfl | (first | rfl)), ?_⟩; (iterate 8 refine ⟨.eq rfl rfl, ?_⟩); exact trivial)) (by (refine ⟨.box _ rfl ?_, ?_⟩; refine ⟨.ownE (by first | with_reducible rfl | (first | rfl)) rfl, ?_⟩; exact trivial; refine ⟨.row rfl, ?_⟩; refine ⟨.loop rfl, ?_⟩; refine ⟨.box _ rfl ?_, ?_⟩; refine ⟨.pvE (by first | with_reducible rfl | (first | rfl)), ?_⟩; exact trivial; refine ⟨.box _ rfl ?_, ?_⟩; refine ⟨.pvE (by first | with_reducible rfl | (first | rfl)), ?_⟩; refine ⟨.intE (by first | with_reducible rfl | (first | rfl)), ?_⟩; exact trivial; refine ⟨.box _ rfl ?_, ?_⟩; (iterate 2 refine ⟨.pvE (by first | with_reducible rfl | (first | rfl)), ?_⟩); (iterate 2 refine ⟨.eq rfl rfl, ?_⟩); exact trivial; refine ⟨WO.vals rfl, ?_⟩; refine ⟨.box _ rfl ?_, ?_⟩; refine ⟨.eq rfl rfl, ?_⟩; exact trivial; refine ⟨.box _ rfl ?_, ?_⟩; refine ⟨.pvE (by first | with_reducible rfl | (first | rfl)), ?_⟩; exact trivial; refine ⟨.box _ rfl ?_, ?_⟩; refine ⟨.pvE (by first | with_reducible rfl | (first | rfl)), ?_⟩; refine ⟨.intE (by first | with_reducible rfl | (first | rfl)), ?_⟩; exact trivial; refine ⟨.box _ rfl ?_, ?_⟩; (iterate 2 refine ⟨.pvE (by first | with_reducible rfl | (first | rfl)), ?_⟩); (iterate 2 refine ⟨.eq rfl rfl, ?_⟩); (iterate 2 exact trivial))) rfl
    rintro s hs
    by_cases hlt : s < st
    · (refine zq ?_; refine zs ?_; refine zd ?_; refine zo ?_; refine zc ?_; refine AW.skip ?_; refine thenD_n ?_; refine zo ?_; refine AW.block ?_; refine zq ?_; refine nz ?_; refine zm ?_; refine za ?_; refine zd ?_; refine zq ?_; refine nz ?_; refine zm ?_; refine zn ?_; refine zm ?_; refine zd ?_; refine AW.block ?_)
      (refine nz ?_; apply AW.loopR [32, 31, 7, 28, 27, 6, 0, 2, 3, 1012, 1009, 1007, 1005, 1004] [14, 13, 12, 11, 3, 4, 2, 1, 0] (fun k : Nat => ([(33, litI k)] : List (Nat × AV))) (fun k : Nat => ([(10, some (.box [.own 15 3 1 ((outL V F (stP 0 st fr vr s k)).map encI)])), (15, some .row)] : List (Nat × Option Ob))) (fun k : Nat => k ≤ fr.length) (fun k : Nat => fr.length - k) (0); (conv => lhs; simp only [Nf.lpR, Nf.all, Nat.reduceBEq, reduceAdd, reduceSub]); (all_goals skip))
      · exact Nat.zero_le _
      · exact weak rfl (by (refine ⟨.intE (by first | with_reducible rfl | (first | rfl)), ?_⟩; refine ⟨.intE (by first | with_reducible rfl | (first | rfl)), ?_⟩; refine ⟨.pvE (by first | with_reducible rfl | (first | rfl)), ?_⟩; (iterate 3 refine ⟨.intE (by first | with_reducible rfl | (first | rfl)), ?_⟩); refine ⟨.pvE (by first | with_reducible rfl | (first | rfl)), ?_⟩; (iterate 8 refine ⟨.eq rfl rfl, ?_⟩); exact trivial)) (by (refine ⟨.box _ rfl ?_, ?_⟩; refine ⟨.ownE (by first | with_reducible rfl | (first | rfl)) rfl, ?_⟩; exact trivial; refine ⟨.row rfl, ?_⟩; refine ⟨.loop rfl, ?_⟩; refine ⟨.box _ rfl ?_, ?_⟩; refine ⟨.pvE (by first | with_reducible rfl | (first | rfl)), ?_⟩; exact trivial; refine ⟨.box _ rfl ?_, ?_⟩; refine ⟨.pvE (by first | with_reducible rfl | (first | rfl)), ?_⟩; refine ⟨.intE (by first | with_reducible rfl | (first | rfl)), ?_⟩; exact trivial; refine ⟨.box _ rfl ?_, ?_⟩; (iterate 2 refine ⟨.pvE (by first | with_reducible rfl | (first | rfl)), ?_⟩); (iterate 2 refine ⟨.eq rfl rfl, ?_⟩); exact trivial; refine ⟨WO.vals rfl, ?_⟩; refine ⟨.box _ rfl ?_, ?_⟩; refine ⟨.eq rfl rfl, ?_⟩; exact trivial; refine ⟨.box _ rfl ?_, ?_⟩; refine ⟨.pvE (by first | with_reducible rfl | (first | rfl)), ?_⟩; exact trivial; refine ⟨.box _ rfl ?_, ?_⟩; refine ⟨.pvE (by first | with_reducible rfl | (first | rfl)), ?_⟩; refine ⟨.intE (by first | with_reducible rfl | (first | rfl)), ?_⟩; exact trivial; refine ⟨.box _ rfl ?_, ?_⟩; (iterate 2 refine ⟨.pvE (by first | with_reducible rfl | (first | rfl)), ?_⟩); (iterate 2 refine ⟨.eq rfl rfl, ?_⟩); (iterate 2 exact trivial))) rfl
      rintro k hk
      have hln := hlen s k hs
      have hol := outL_len V F (stP 0 st fr vr s k)
      by_cases hlt2 : k < fr.length
      · obtain ⟨hf0, hf1, hf2⟩ := hfd k hlt2
        have hft := hfk k hlt2
        have hos := outP (o := 0) (st := st) (vr := vr) V F s hlt2
        rw [hfP s k hlt2, harf k hlt2 hf1] at hos
        have hrel := hpr fs[fr[k].1.toNat].sorts.length fr[k].2 (h.ar _ (List.getElem_mem hf1)).2 hft
        generalize imgR p.length p fs[fr[k].1.toNat].sorts.length fr[k].2 = im at hos hrel
        by_cases h0 : s = 0
        · have hos := hos (.inl h0)
          (refine zq ?_; refine zs ?_; refine zd ?_; refine zo ?_; refine zc ?_; refine AW.skip ?_; refine thenD_n ?_; refine zo ?_; refine AW.block ?_; refine zq ?_; refine nz ?_; (focus ((with_reducible apply AOps.index_map); (iterate 7 exact rfl); rotate_left; omega)); refine AOps.load_rn rfl rfl rfl rfl ?_; refine nz ?_; refine AOps.allocN' rfl rfl rfl rfl ?_; refine nz ?_; refine zB ?_; refine nz ?_; refine zd ?_; refine zq ?_; refine zm ?_; refine AOps.eql rfl rfl rfl rfl rfl ?_; refine zm ?_; (iterate 7 refine AOps.guardFn rfl rfl rfl rfl rfl rfl (by first | omega | decide) ?_); refine zT ?_; refine zm ?_; refine zl ?_; refine AOps.move rfl rfl rfl ?_; refine nz ?_; refine zl ?_; refine zm ?_; refine zl ?_; refine AOps.indexA_p 124 0 1 0 rfl rfl (by kernel_rfl) rfl rfl rfl rfl ?_; refine nz ?_; refine zl ?_; refine zb ?_; refine zl ?_; refine AOps.indexA_p 124 1 1 1 rfl rfl (by kernel_rfl) rfl rfl rfl rfl ?_; refine nz ?_; refine zl ?_; refine zb ?_; refine zl ?_; refine AOps.buildN 97 [0, 1, 2] rfl rfl rfl rfl rfl rfl rfl rfl rfl ?_; refine nz ?_; refine zl ?_; (with_reducible apply AOps.yieldN0 hcode1 hwtC hheld1 htm1'); (iterate 8 exact rfl); intro gR hroR_ hwtR hupR; (try refine nz ?_); refine AW.region ?_; refine AOps.allocN' rfl rfl rfl rfl ?_; refine nz ?_; refine zB ?_; refine nz ?_; refine zd ?_; refine And.intro (show isLp _ _ _ _ from ⟨_, _, _, _, rfl⟩) ?_; (try refine nz ?_); refine AW.block ?_; refine zo ?_; refine zq ?_; refine AOps.fieldAddrN 97 0 0 rfl rfl rfl rfl ?_; refine zb ?_; refine AOps.geq rfl rfl rfl rfl rfl ?_; refine zd ?_; refine AW.cond_lt rfl rfl ?_; refine zo ?_; refine AW.regionM [0, 1, 2, 3, 4, 5, 6, 7, 8, 9] [13] rfl (by assumption) (by kernel_rfl) (by kernel_rfl) rfl ?_; show AOps .held _ _ _ [_, _, _, _, _, _, _, _, _, _] _ _; refine AOps.fieldAddrN 47 1 1 rfl rfl rfl rfl ?_; refine zb ?_; refine AOps.fieldAddrN 97 1 1 rfl rfl rfl rfl ?_; refine zb ?_; (focus ((with_reducible apply AOps.index_mapI); (iterate 7 exact rfl); omega; rotate_left; (first | omega | exact Nat.zero_lt_one | exact (by simp)))); refine AOps.fieldAddr_rN 71 1 1 1 rfl rfl rfl rfl ?_; refine nz ?_; refine zr ?_; refine zn ?_; refine AOps.fieldAddrN 97 2 2 rfl rfl rfl rfl ?_; refine zb ?_; refine AOps.nil ?_; refine onlyN_n ?_; intro k_ hk_; refine nz ?_; apply AR.cut [9, 8, 7, 6, 5, 4, 3, 2, 1, 0, 10, 11, 12]; intro hJ_0; (refine AR.step2M (i := 10) (j := 12) rfl (by kernel_rfl) rfl rfl ?_ ?_ <;> intro g_ hgro_ hw_); refine AOps.bs1 rfl rfl rfl rfl rfl rfl rfl rfl ?_; refine nz ?_; refine AOps.nil ?_; refine onlyN_n ?_; refine AR.free 11 (by kernel_rfl) rfl rfl rfl (Frees.build 99 [0, 1] rfl rfl rfl rfl rfl rfl rfl rfl) ?_; (try refine nz ?_); refine AR.step1M (i := 12) rfl (by kernel_rfl) rfl ?_; intro g_ hgro_ hw_; refine AOps.allocN' rfl rfl rfl rfl ?_; refine nz ?_; refine AOps.nil ?_; refine onlyN_n ?_; (try refine nz ?_); refine AR.dd ?_; (conv => rhs; simp only [Nf.ddR, Nf.all, Nat.reduceBEq, reduceAdd, reduceSub]); exact AR.perm (by kernel_rfl) hJ_0; refine AOps.allocN' rfl rfl rfl rfl ?_; refine nz ?_; refine AOps.nil ?_; refine onlyN_n ?_; refine AR.step1M (i := 10) rfl (by kernel_rfl) rfl ?_; intro g_ hgro_ hw_; refine AOps.bs1 rfl rfl rfl rfl rfl rfl rfl rfl ?_; refine nz ?_; refine AOps.nil ?_; refine onlyN_n ?_; refine AR.free 11 (by kernel_rfl) rfl rfl rfl (Frees.build 99 [0, 1] rfl rfl rfl rfl rfl rfl rfl rfl) ?_; (try refine nz ?_); (try refine nz ?_); refine AR.sw 18 19 (by assumption) (by kernel_rfl) (by kernel_rfl) ?_; (conv => rhs; simp only [Nf.swR, Nf.all, Nat.reduceBEq, reduceAdd, reduceSub]); refine AR.meet hJ_0 (by kernel_rfl) (fun g_ => weak rfl ?_ ?_ rfl); (iterate 61 refine ⟨.eq rfl rfl, ?_⟩); exact trivial; refine ⟨.box _ rfl ?_, ?_⟩; (iterate 2 refine ⟨.eq rfl rfl, ?_⟩); exact trivial; refine ⟨.row rfl, ?_⟩; refine ⟨.loop rfl, ?_⟩; refine ⟨.box _ rfl ?_, ?_⟩; (iterate 3 refine ⟨.eq rfl rfl, ?_⟩); exact trivial; refine ⟨.box _ rfl ?_, ?_⟩; (iterate 2 refine ⟨.eq rfl rfl, ?_⟩); exact trivial; refine ⟨.box _ rfl ?_, ?_⟩; refine ⟨.eq rfl rfl, ?_⟩; exact trivial; refine ⟨.row rfl, ?_⟩; refine ⟨.box _ rfl ?_, ?_⟩; refine ⟨.eq rfl rfl, ?_⟩; exact trivial; refine ⟨.box _ rfl ?_, ?_⟩; (iterate 2 refine ⟨.eq rfl rfl, ?_⟩); exact trivial; refine ⟨.box _ rfl ?_, ?_⟩; (iterate 4 refine ⟨.eq rfl rfl, ?_⟩); exact trivial; refine ⟨.valsS _ _ rfl, ?_⟩; refine ⟨.box _ rfl ?_, ?_⟩; refine ⟨.eq rfl rfl, ?_⟩; exact trivial; refine ⟨.box _ rfl ?_, ?_⟩; refine ⟨.eq rfl rfl, ?_⟩; exact trivial; refine ⟨.box _ rfl ?_, ?_⟩; (iterate 2 refine ⟨.eq rfl rfl, ?_⟩); exact trivial; refine ⟨.box _ rfl ?_, ?_⟩; (iterate 4 refine ⟨.eq rfl rfl, ?_⟩); (iterate 2 exact trivial); refine AR.step1LM (i := 13) rfl (by kernel_rfl) rfl (by kernel_rfl) ?_; intro g_ hgro_ hwt2_; refine zB ?_; refine nz ?_; refine AOps.nil ?_; refine onlyN_n ?_; refine AR.doneM (by assumption) (by kernel_rfl) ?_; refine thenD_n ?_; refine AW.region ?_; refine zL ?_; refine nz ?_; refine zb ?_; refine zL ?_; refine nz ?_; refine AOps.frzC rfl rfl ?_; refine nz ?_; refine zP (hrel) ?_; refine AOps.field1N 99 1 1 rfl rfl rfl rfl rfl ?_; (focus ((with_reducible apply AOps.index_mapI); (iterate 7 exact rfl); omega; rotate_left; (first | omega | exact Nat.zero_lt_one | exact (by simp)))); refine zr ?_; refine AOps.fieldAddrN 97 2 2 rfl rfl rfl rfl ?_; refine AOps.store_b1 rfl rfl rfl rfl rfl rfl rfl rfl rfl (by with_reducible assumption) ?_; refine nz ?_; refine zd ?_; refine AW.regionM [0, 1, 2, 3] [6] rfl (by assumption) (by kernel_rfl) (by kernel_rfl) rfl ?_; show AOps .held _ _ _ [_, _, _, _] _ _; (iterate 2 refine zb ?_); refine zL ?_; refine nz ?_; refine AOps.lookup_v rfl rfl rfl rfl (by kernel_rfl) rfl rfl rfl rfl ?_; refine AOps.nil ?_; refine onlyN_n ?_; intro k_ hk_; refine nz ?_; refine AR.step1M (i := 4) rfl (by kernel_rfl) rfl ?_; intro g_ hgro_ hw_; refine AOps.bs1 rfl rfl rfl rfl rfl rfl rfl rfl ?_; refine nz ?_; refine AOps.nil ?_; refine onlyN_n ?_; refine AR.step1M (i := 5) rfl (by kernel_rfl) rfl ?_; intro g_ hgro_ hw_; (with_reducible apply AOps.appendS); exact rfl; (first | exact .pv rfl | exact .own rfl | exact .nil rfl); (iterate 9 exact rfl); (first | omega | (simp only [List.length_map, List.length_append, List.length_cons, List.length_nil, List.length_drop, List.length_take, List.length_set, chunk_len]; omega)); refine nz ?_; refine AOps.nil ?_; refine onlyN_n ?_; refine AR.step1LM (i := 6) rfl (by kernel_rfl) rfl (by kernel_rfl) ?_; intro g_ hgro_ hwt2_; refine AOps.store_b1 rfl rfl rfl rfl rfl rfl rfl rfl rfl (by with_reducible assumption) ?_; refine nz ?_; refine AOps.nil ?_; refine onlyN_n ?_; refine AR.doneM (by assumption) (by kernel_rfl) ?_; refine inBlockD_n ?_; (with_reducible apply roundEndsN_n); exact ⟨_, _, _, _, rfl⟩; refine nz ?_; refine zl ?_; refine AOps.not rfl rfl rfl ?_; refine AOps.pick_lt rfl rfl rfl rfl rfl rfl ?_; refine zd ?_; refine AW.cond_lf rfl rfl ?_; refine AW.skip ?_; refine inBlockD_n ?_; refine thenD_n ?_; refine AW.region ?_; refine nz ?_; refine zj ?_; refine zm ?_; refine zd ?_)
          exact ⟨k + 1, by omega, by omega, weak rfl (by (refine ⟨.intE (by first | with_reducible rfl | (first | rfl | (rw [hos, List.map_append]; rfl))), ?_⟩; refine ⟨.intE (by first | with_reducible rfl | (first | rfl | (rw [hos, List.map_append]; rfl))), ?_⟩; refine ⟨.pvE (by first | with_reducible rfl | (first | rfl | (rw [hos, List.map_append]; rfl))), ?_⟩; refine ⟨.intE (by first | with_reducible rfl | (first | rfl | (rw [hos, List.map_append]; rfl))), ?_⟩; refine ⟨.intE (by first | with_reducible rfl | (first | rfl | (rw [hos, List.map_append]; rfl))), ?_⟩; refine ⟨.intE (by first | with_reducible rfl | (first | rfl | (rw [hos, List.map_append]; rfl))), ?_⟩; refine ⟨.pvE (by first | with_reducible rfl | (first | rfl | (rw [hos, List.map_append]; rfl))), ?_⟩; (iterate 8 refine ⟨.eq rfl rfl, ?_⟩); exact trivial)) (by (refine ⟨.box _ rfl ?_, ?_⟩; refine ⟨.ownE (by first | with_reducible rfl | (first | rfl | (rw [hos, List.map_append]; rfl))) rfl, ?_⟩; exact trivial; refine ⟨.row rfl, ?_⟩; refine ⟨.loop rfl, ?_⟩; refine ⟨.box _ rfl ?_, ?_⟩; refine ⟨.pvE (by first | with_reducible rfl | (first | rfl | (rw [hos, List.map_append]; rfl))), ?_⟩; exact trivial; refine ⟨.box _ rfl ?_, ?_⟩; refine ⟨.pvE (by first | with_reducible rfl | (first | rfl | (rw [hos, List.map_append]; rfl))), ?_⟩; refine ⟨.intE (by first | with_reducible rfl | (first | rfl | (rw [hos, List.map_append]; rfl))), ?_⟩; exact trivial; refine ⟨.box _ rfl ?_, ?_⟩; refine ⟨.pvE (by first | with_reducible rfl | (first | rfl | (rw [hos, List.map_append]; rfl))), ?_⟩; refine ⟨.pvE (by first | with_reducible rfl | (first | rfl | (rw [hos, List.map_append]; rfl))), ?_⟩; (iterate 2 refine ⟨.eq rfl rfl, ?_⟩); exact trivial; refine ⟨WO.vals rfl, ?_⟩; refine ⟨.box _ rfl ?_, ?_⟩; refine ⟨.eq rfl rfl, ?_⟩; exact trivial; refine ⟨.box _ rfl ?_, ?_⟩; refine ⟨.pvE (by first | with_reducible rfl | (first | rfl | (rw [hos, List.map_append]; rfl))), ?_⟩; exact trivial; refine ⟨.box _ rfl ?_, ?_⟩; refine ⟨.pvE (by first | with_reducible rfl | (first | rfl | (rw [hos, List.map_append]; rfl))), ?_⟩; refine ⟨.intE (by first | with_reducible rfl | (first | rfl | (rw [hos, List.map_append]; rfl))), ?_⟩; exact trivial; refine ⟨.box _ rfl ?_, ?_⟩; refine ⟨.pvE (by first | with_reducible rfl | (first | rfl | (rw [hos, List.map_append]; rfl))), ?_⟩; refine ⟨.pvE (by first | with_reducible rfl | (first | rfl | (rw [hos, List.map_append]; rfl))), ?_⟩; (iterate 2 refine ⟨.eq rfl rfl, ?_⟩); (iterate 2 exact trivial))) rfl⟩
        · cases hb : fs[fr[k].1.toNat].var with
          | true =>
            have hos := hos (.inr (hf2.trans hb))
            (refine zq ?_; refine zs ?_; refine zd ?_; refine zo ?_; refine zc ?_; refine AW.skip ?_; refine thenD_n ?_; refine zo ?_; refine AW.block ?_; refine zq ?_; refine nz ?_; (focus ((with_reducible apply AOps.index_map); (iterate 7 exact rfl); rotate_left; omega)); refine AOps.load_rn rfl rfl rfl rfl ?_; refine nz ?_; refine AOps.allocN' rfl rfl rfl rfl ?_; refine nz ?_; refine zB ?_; refine nz ?_; refine zd ?_; refine zq ?_; refine zm ?_; refine AOps.eql rfl rfl rfl rfl rfl ?_; refine zm ?_; refine zy ?_; refine AOps.fieldAddrN 47 1 1 rfl rfl rfl rfl ?_; refine zy ?_; refine zb ?_; refine zy ?_; refine AOps.indexA_p 124 0 1 0 rfl rfl (by kernel_rfl) rfl rfl rfl rfl ?_; refine nz ?_; refine zy ?_; refine zb ?_; refine zy ?_; (focus ((with_reducible apply AOps.index_mapI); (iterate 7 exact rfl); omega; rotate_left; (first | omega | exact Nat.zero_lt_one | exact (by simp)))); refine zy ?_; refine AOps.fieldAddr_rN 71 2 2 1 rfl rfl rfl rfl ?_; refine nz ?_; refine zy ?_; refine zr ?_; refine zF ?_; refine zm ?_; refine AOps.guard_lt rfl rfl rfl rfl rfl (by assumption) rfl ?_; refine AOps.move rfl rfl rfl ?_; refine nz ?_; refine AOps.guard_lt rfl rfl rfl rfl rfl (by assumption) rfl ?_; refine zm ?_; refine AOps.guard_lt rfl rfl rfl rfl rfl (by assumption) rfl ?_; refine AOps.indexA_p 124 0 1 0 rfl rfl (by kernel_rfl) rfl rfl rfl rfl ?_; refine nz ?_; refine AOps.guard_lt rfl rfl rfl rfl rfl (by assumption) rfl ?_; refine zb ?_; refine AOps.guard_lt rfl rfl rfl rfl rfl (by assumption) rfl ?_; refine AOps.indexA_p 124 1 1 1 rfl rfl (by kernel_rfl) rfl rfl rfl rfl ?_; refine nz ?_; refine AOps.guard_lt rfl rfl rfl rfl rfl (by assumption) rfl ?_; refine zb ?_; refine AOps.guard_lt rfl rfl rfl rfl rfl (by assumption) rfl ?_; refine AOps.buildN 97 [0, 1, 2] rfl rfl rfl rfl rfl rfl rfl rfl rfl ?_; refine nz ?_; refine AOps.guard_lt rfl rfl rfl rfl rfl (by assumption) rfl ?_; (with_reducible apply AOps.yieldN0 hcode1 hwtC hheld1 htm1'); (iterate 8 exact rfl); intro gR hroR_ hwtR hupR; (try refine nz ?_); refine AW.region ?_; refine AOps.allocN' rfl rfl rfl rfl ?_; refine nz ?_; refine zB ?_; refine nz ?_; refine zd ?_; refine And.intro (show isLp _ _ _ _ from ⟨_, _, _, _, rfl⟩) ?_; (try refine nz ?_); refine AW.block ?_; refine zo ?_; refine zq ?_; refine AOps.fieldAddrN 97 0 0 rfl rfl rfl rfl ?_; refine zb ?_; refine AOps.geq rfl rfl rfl rfl rfl ?_; refine zd ?_; refine AW.cond_lt rfl rfl ?_; refine zo ?_; refine AW.regionM [0, 1, 2, 3, 4, 5, 6, 7, 8, 9] [13] rfl (by assumption) (by kernel_rfl) (by kernel_rfl) rfl ?_; show AOps .held _ _ _ [_, _, _, _, _, _, _, _, _, _] _ _; refine AOps.fieldAddrN 47 1 1 rfl rfl rfl rfl ?_; refine zb ?_; refine AOps.fieldAddrN 97 1 1 rfl rfl rfl rfl ?_; refine zb ?_; (focus ((with_reducible apply AOps.index_mapI); (iterate 7 exact rfl); omega; rotate_left; (first | omega | exact Nat.zero_lt_one | exact (by simp)))); refine AOps.fieldAddr_rN 71 1 1 1 rfl rfl rfl rfl ?_; refine nz ?_; refine zr ?_; refine zn ?_; refine AOps.fieldAddrN 97 2 2 rfl rfl rfl rfl ?_; refine zb ?_; refine AOps.nil ?_; refine onlyN_n ?_; intro k_ hk_; refine nz ?_; apply AR.cut [9, 8, 7, 6, 5, 4, 3, 2, 1, 0, 10, 11, 12]; intro hJ_0; (refine AR.step2M (i := 10) (j := 12) rfl (by kernel_rfl) rfl rfl ?_ ?_ <;> intro g_ hgro_ hw_); refine AOps.bs1 rfl rfl rfl rfl rfl rfl rfl rfl ?_; refine nz ?_; refine AOps.nil ?_; refine onlyN_n ?_; refine AR.free 11 (by kernel_rfl) rfl rfl rfl (Frees.build 99 [0, 1] rfl rfl rfl rfl rfl rfl rfl rfl) ?_; (try refine nz ?_); refine AR.step1M (i := 12) rfl (by kernel_rfl) rfl ?_; intro g_ hgro_ hw_; refine AOps.allocN' rfl rfl rfl rfl ?_; refine nz ?_; refine AOps.nil ?_; refine onlyN_n ?_; (try refine nz ?_); refine AR.dd ?_; (conv => rhs; simp only [Nf.ddR, Nf.all, Nat.reduceBEq, reduceAdd, reduceSub]); exact AR.perm (by kernel_rfl) hJ_0; refine AOps.allocN' rfl rfl rfl rfl ?_; refine nz ?_; refine AOps.nil ?_; refine onlyN_n ?_; refine AR.step1M (i := 10) rfl (by kernel_rfl) rfl ?_; intro g_ hgro_ hw_; refine AOps.bs1 rfl rfl rfl rfl rfl rfl rfl rfl ?_; refine nz ?_; refine AOps.nil ?_; refine onlyN_n ?_; refine AR.free 11 (by kernel_rfl) rfl rfl rfl (Frees.build 99 [0, 1] rfl rfl rfl rfl rfl rfl rfl rfl) ?_; (try refine nz ?_); (try refine nz ?_); refine AR.sw 18 19 (by assumption) (by kernel_rfl) (by kernel_rfl) ?_; (conv => rhs; simp only [Nf.swR, Nf.all, Nat.reduceBEq, reduceAdd, reduceSub]); refine AR.meet hJ_0 (by kernel_rfl) (fun g_ => weak rfl ?_ ?_ rfl); (iterate 61 refine ⟨.eq rfl rfl, ?_⟩); exact trivial; refine ⟨.box _ rfl ?_, ?_⟩; (iterate 2 refine ⟨.eq rfl rfl, ?_⟩); exact trivial; refine ⟨.row rfl, ?_⟩; refine ⟨.loop rfl, ?_⟩; refine ⟨.box _ rfl ?_, ?_⟩; (iterate 3 refine ⟨.eq rfl rfl, ?_⟩); exact trivial; refine ⟨.box _ rfl ?_, ?_⟩; (iterate 2 refine ⟨.eq rfl rfl, ?_⟩); exact trivial; refine ⟨.box _ rfl ?_, ?_⟩; refine ⟨.eq rfl rfl, ?_⟩; exact trivial; refine ⟨.row rfl, ?_⟩; refine ⟨.box _ rfl ?_, ?_⟩; refine ⟨.eq rfl rfl, ?_⟩; exact trivial; refine ⟨.box _ rfl ?_, ?_⟩; (iterate 2 refine ⟨.eq rfl rfl, ?_⟩); exact trivial; refine ⟨.box _ rfl ?_, ?_⟩; (iterate 4 refine ⟨.eq rfl rfl, ?_⟩); exact trivial; refine ⟨.valsS _ _ rfl, ?_⟩; refine ⟨.box _ rfl ?_, ?_⟩; refine ⟨.eq rfl rfl, ?_⟩; exact trivial; refine ⟨.box _ rfl ?_, ?_⟩; refine ⟨.eq rfl rfl, ?_⟩; exact trivial; refine ⟨.box _ rfl ?_, ?_⟩; (iterate 2 refine ⟨.eq rfl rfl, ?_⟩); exact trivial; refine ⟨.box _ rfl ?_, ?_⟩; (iterate 4 refine ⟨.eq rfl rfl, ?_⟩); (iterate 2 exact trivial); refine AR.step1LM (i := 13) rfl (by kernel_rfl) rfl (by kernel_rfl) ?_; intro g_ hgro_ hwt2_; refine zB ?_; refine nz ?_; refine AOps.nil ?_; refine onlyN_n ?_; refine AR.doneM (by assumption) (by kernel_rfl) ?_; refine thenD_n ?_; refine AW.region ?_; refine zL ?_; refine nz ?_; refine zb ?_; refine zL ?_; refine nz ?_; refine AOps.frzC rfl rfl ?_; refine nz ?_; refine zP (hrel) ?_; refine AOps.field1N 99 1 1 rfl rfl rfl rfl rfl ?_; (focus ((with_reducible apply AOps.index_mapI); (iterate 7 exact rfl); omega; rotate_left; (first | omega | exact Nat.zero_lt_one | exact (by simp)))); refine zr ?_; refine AOps.fieldAddrN 97 2 2 rfl rfl rfl rfl ?_; refine AOps.store_b1 rfl rfl rfl rfl rfl rfl rfl rfl rfl (by with_reducible assumption) ?_; refine nz ?_; refine zd ?_; refine AW.regionM [0, 1, 2, 3] [6] rfl (by assumption) (by kernel_rfl) (by kernel_rfl) rfl ?_; show AOps .held _ _ _ [_, _, _, _] _ _; (iterate 2 refine zb ?_); refine zL ?_; refine nz ?_; refine AOps.lookup_v rfl rfl rfl rfl (by kernel_rfl) rfl rfl rfl rfl ?_; refine AOps.nil ?_; refine onlyN_n ?_; intro k_ hk_; refine nz ?_; refine AR.step1M (i := 4) rfl (by kernel_rfl) rfl ?_; intro g_ hgro_ hw_; refine AOps.bs1 rfl rfl rfl rfl rfl rfl rfl rfl ?_; refine nz ?_; refine AOps.nil ?_; refine onlyN_n ?_; refine AR.step1M (i := 5) rfl (by kernel_rfl) rfl ?_; intro g_ hgro_ hw_; (with_reducible apply AOps.appendS); exact rfl; (first | exact .pv rfl | exact .own rfl | exact .nil rfl); (iterate 9 exact rfl); (first | omega | (simp only [List.length_map, List.length_append, List.length_cons, List.length_nil, List.length_drop, List.length_take, List.length_set, chunk_len]; omega)); refine nz ?_; refine AOps.nil ?_; refine onlyN_n ?_; refine AR.step1LM (i := 6) rfl (by kernel_rfl) rfl (by kernel_rfl) ?_; intro g_ hgro_ hwt2_; refine AOps.store_b1 rfl rfl rfl rfl rfl rfl rfl rfl rfl (by with_reducible assumption) ?_; refine nz ?_; refine AOps.nil ?_; refine onlyN_n ?_; refine AR.doneM (by assumption) (by kernel_rfl) ?_; refine inBlockD_n ?_; (with_reducible apply roundEndsN_n); exact ⟨_, _, _, _, rfl⟩; refine nz ?_; refine AOps.guard_lt rfl rfl rfl rfl rfl (by assumption) rfl ?_; refine AOps.not rfl rfl rfl ?_; refine AOps.pickBt rfl rfl (by assumption) rfl rfl rfl rfl ?_; refine zd ?_; refine AW.cond_lf rfl rfl ?_; refine AW.skip ?_; refine inBlockD_n ?_; refine thenD_n ?_; refine AW.region ?_; refine nz ?_; refine zj ?_; refine zm ?_; refine zd ?_)
            exact ⟨k + 1, by omega, by omega, weak rfl (by (refine ⟨.intE (by first | with_reducible rfl | (first | rfl | (rw [hos, List.map_append]; rfl))), ?_⟩; refine ⟨.intE (by first | with_reducible rfl | (first | rfl | (rw [hos, List.map_append]; rfl))), ?_⟩; refine ⟨.pvE (by first | with_reducible rfl | (first | rfl | (rw [hos, List.map_append]; rfl))), ?_⟩; refine ⟨.intE (by first | with_reducible rfl | (first | rfl | (rw [hos, List.map_append]; rfl))), ?_⟩; refine ⟨.intE (by first | with_reducible rfl | (first | rfl | (rw [hos, List.map_append]; rfl))), ?_⟩; refine ⟨.intE (by first | with_reducible rfl | (first | rfl | (rw [hos, List.map_append]; rfl))), ?_⟩; refine ⟨.pvE (by first | with_reducible rfl | (first | rfl | (rw [hos, List.map_append]; rfl))), ?_⟩; (iterate 8 refine ⟨.eq rfl rfl, ?_⟩); exact trivial)) (by (refine ⟨.box _ rfl ?_, ?_⟩; refine ⟨.ownE (by first | with_reducible rfl | (first | rfl | (rw [hos, List.map_append]; rfl))) rfl, ?_⟩; exact trivial; refine ⟨.row rfl, ?_⟩; refine ⟨.loop rfl, ?_⟩; refine ⟨.box _ rfl ?_, ?_⟩; refine ⟨.pvE (by first | with_reducible rfl | (first | rfl | (rw [hos, List.map_append]; rfl))), ?_⟩; exact trivial; refine ⟨.box _ rfl ?_, ?_⟩; refine ⟨.pvE (by first | with_reducible rfl | (first | rfl | (rw [hos, List.map_append]; rfl))), ?_⟩; refine ⟨.intE (by first | with_reducible rfl | (first | rfl | (rw [hos, List.map_append]; rfl))), ?_⟩; exact trivial; refine ⟨.box _ rfl ?_, ?_⟩; refine ⟨.pvE (by first | with_reducible rfl | (first | rfl | (rw [hos, List.map_append]; rfl))), ?_⟩; refine ⟨.pvE (by first | with_reducible rfl | (first | rfl | (rw [hos, List.map_append]; rfl))), ?_⟩; (iterate 2 refine ⟨.eq rfl rfl, ?_⟩); exact trivial; refine ⟨WO.vals rfl, ?_⟩; refine ⟨.box _ rfl ?_, ?_⟩; refine ⟨.eq rfl rfl, ?_⟩; exact trivial; refine ⟨.box _ rfl ?_, ?_⟩; refine ⟨.pvE (by first | with_reducible rfl | (first | rfl | (rw [hos, List.map_append]; rfl))), ?_⟩; exact trivial; refine ⟨.box _ rfl ?_, ?_⟩; refine ⟨.pvE (by first | with_reducible rfl | (first | rfl | (rw [hos, List.map_append]; rfl))), ?_⟩; refine ⟨.intE (by first | with_reducible rfl | (first | rfl | (rw [hos, List.map_append]; rfl))), ?_⟩; exact trivial; refine ⟨.box _ rfl ?_, ?_⟩; refine ⟨.pvE (by first | with_reducible rfl | (first | rfl | (rw [hos, List.map_append]; rfl))), ?_⟩; refine ⟨.pvE (by first | with_reducible rfl | (first | rfl | (rw [hos, List.map_append]; rfl))), ?_⟩; (iterate 2 refine ⟨.eq rfl rfl, ?_⟩); (iterate 2 exact trivial))) rfl⟩
          | false =>
            have hst := stayP (o := 0) (st := st) (vr := vr) s hlt2 (fun h => h.elim h0 fun h => by rw [hf2.trans hb] at h; cases h)
            (refine zq ?_; refine zs ?_; refine zd ?_; refine zo ?_; refine zc ?_; refine AW.skip ?_; refine thenD_n ?_; refine zo ?_; refine AW.block ?_; refine zq ?_; refine nz ?_; (focus ((with_reducible apply AOps.index_map); (iterate 7 exact rfl); rotate_left; omega)); refine AOps.load_rn rfl rfl rfl rfl ?_; refine nz ?_; refine AOps.allocN' rfl rfl rfl rfl ?_; refine nz ?_; refine zB ?_; refine nz ?_; refine zd ?_; refine zq ?_; refine zm ?_; refine AOps.eql rfl rfl rfl rfl rfl ?_; refine zm ?_; refine zy ?_; refine AOps.fieldAddrN 47 1 1 rfl rfl rfl rfl ?_; refine zy ?_; refine zb ?_; refine zy ?_; refine AOps.indexA_p 124 0 1 0 rfl rfl (by kernel_rfl) rfl rfl rfl rfl ?_; refine nz ?_; refine zy ?_; refine zb ?_; refine zy ?_; (focus ((with_reducible apply AOps.index_mapI); (iterate 7 exact rfl); omega; rotate_left; (first | omega | exact Nat.zero_lt_one | exact (by simp)))); refine zy ?_; refine AOps.fieldAddr_rN 71 2 2 1 rfl rfl rfl rfl ?_; refine nz ?_; refine zy ?_; refine zr ?_; refine zF ?_; refine zm ?_; (iterate 9 refine AOps.guard_lf rfl rfl rfl rfl rfl (by assumption) rfl ?_); refine AOps.pickBf rfl rfl (by assumption) rfl rfl rfl rfl ?_; refine zd ?_; refine AW.cond_lf rfl rfl ?_; refine AW.skip ?_; refine inBlockD_n ?_; refine thenD_n ?_; refine AW.region ?_; refine nz ?_; refine zj ?_; refine zm ?_; refine zd ?_)
            exact ⟨k + 1, by omega, by omega, weak rfl (by (refine ⟨.intE (by first | with_reducible rfl | (first | rfl | (rw [hst]))), ?_⟩; refine ⟨.intE (by first | with_reducible rfl | (first | rfl | (rw [hst]))), ?_⟩; refine ⟨.pvE (by first | with_reducible rfl | (first | rfl | (rw [hst]))), ?_⟩; refine ⟨.intE (by first | with_reducible rfl | (first | rfl | (rw [hst]))), ?_⟩; refine ⟨.intE (by first | with_reducible rfl | (first | rfl | (rw [hst]))), ?_⟩; refine ⟨.intE (by first | with_reducible rfl | (first | rfl | (rw [hst]))), ?_⟩; refine ⟨.pvE (by first | with_reducible rfl | (first | rfl | (rw [hst]))), ?_⟩; (iterate 8 refine ⟨.eq rfl rfl, ?_⟩); exact trivial)) (by (refine ⟨.box _ rfl ?_, ?_⟩; refine ⟨.ownE (by first | with_reducible rfl | (first | rfl | (rw [hst]))) rfl, ?_⟩; exact trivial; refine ⟨.row rfl, ?_⟩; refine ⟨.loop rfl, ?_⟩; refine ⟨.box _ rfl ?_, ?_⟩; refine ⟨.pvE (by first | with_reducible rfl | (first | rfl | (rw [hst]))), ?_⟩; exact trivial; refine ⟨.box _ rfl ?_, ?_⟩; refine ⟨.pvE (by first | with_reducible rfl | (first | rfl | (rw [hst]))), ?_⟩; refine ⟨.intE (by first | with_reducible rfl | (first | rfl | (rw [hst]))), ?_⟩; exact trivial; refine ⟨.box _ rfl ?_, ?_⟩; refine ⟨.pvE (by first | with_reducible rfl | (first | rfl | (rw [hst]))), ?_⟩; refine ⟨.pvE (by first | with_reducible rfl | (first | rfl | (rw [hst]))), ?_⟩; (iterate 2 refine ⟨.eq rfl rfl, ?_⟩); exact trivial; refine ⟨WO.vals rfl, ?_⟩; refine ⟨.box _ rfl ?_, ?_⟩; refine ⟨.eq rfl rfl, ?_⟩; exact trivial; refine ⟨.box _ rfl ?_, ?_⟩; refine ⟨.pvE (by first | with_reducible rfl | (first | rfl | (rw [hst]))), ?_⟩; exact trivial; refine ⟨.box _ rfl ?_, ?_⟩; refine ⟨.pvE (by first | with_reducible rfl | (first | rfl | (rw [hst]))), ?_⟩; refine ⟨.intE (by first | with_reducible rfl | (first | rfl | (rw [hst]))), ?_⟩; exact trivial; refine ⟨.box _ rfl ?_, ?_⟩; refine ⟨.pvE (by first | with_reducible rfl | (first | rfl | (rw [hst]))), ?_⟩; refine ⟨.pvE (by first | with_reducible rfl | (first | rfl | (rw [hst]))), ?_⟩; (iterate 2 refine ⟨.eq rfl rfl, ?_⟩); (iterate 2 exact trivial))) rfl⟩
      · obtain rfl : k = fr.length := by omega
        have hnx := stP_next 0 st fr vr s
        (refine zq ?_; refine zs ?_; refine zd ?_; refine zo ?_; refine zk ?_; refine AW.exit ?_; (iterate 2 refine thenD_exit ?_); refine inBlockD_exit ?_; refine inBlockD_n ?_; refine thenD_n ?_; refine AW.region ?_; refine nz ?_; refine zj ?_; refine zm ?_; refine zd ?_)
        exact ⟨s + 1, by omega, by omega, weak rfl (by (refine ⟨.intE (by first | with_reducible rfl | (first | rfl | (rw [hnx]))), ?_⟩; refine ⟨.intE (by first | with_reducible rfl | (first | rfl | (rw [hnx]))), ?_⟩; refine ⟨.pvE (by first | with_reducible rfl | (first | rfl | (rw [hnx]))), ?_⟩; (iterate 8 refine ⟨.eq rfl rfl, ?_⟩); exact trivial)) (by (refine ⟨.box _ rfl ?_, ?_⟩; refine ⟨.ownE (by first | with_reducible rfl | (first | rfl | (rw [hnx]))) rfl, ?_⟩; exact trivial; refine ⟨.row rfl, ?_⟩; refine ⟨.loop rfl, ?_⟩; refine ⟨.box _ rfl ?_, ?_⟩; refine ⟨.pvE (by first | with_reducible rfl | (first | rfl | (rw [hnx]))), ?_⟩; exact trivial; refine ⟨.box _ rfl ?_, ?_⟩; refine ⟨.pvE (by first | with_reducible rfl | (first | rfl | (rw [hnx]))), ?_⟩; refine ⟨.intE (by first | with_reducible rfl | (first | rfl | (rw [hnx]))), ?_⟩; exact trivial; refine ⟨.box _ rfl ?_, ?_⟩; refine ⟨.pvE (by first | with_reducible rfl | (first | rfl | (rw [hnx]))), ?_⟩; refine ⟨.pvE (by first | with_reducible rfl | (first | rfl | (rw [hnx]))), ?_⟩; (iterate 2 refine ⟨.eq rfl rfl, ?_⟩); exact trivial; refine ⟨WO.vals rfl, ?_⟩; refine ⟨.box _ rfl ?_, ?_⟩; refine ⟨.eq rfl rfl, ?_⟩; exact trivial; refine ⟨.box _ rfl ?_, ?_⟩; refine ⟨.pvE (by first | with_reducible rfl | (first | rfl | (rw [hnx]))), ?_⟩; exact trivial; refine ⟨.box _ rfl ?_, ?_⟩; refine ⟨.pvE (by first | with_reducible rfl | (first | rfl | (rw [hnx]))), ?_⟩; refine ⟨.intE (by first | with_reducible rfl | (first | rfl | (rw [hnx]))), ?_⟩; exact trivial; refine ⟨.box _ rfl ?_, ?_⟩; refine ⟨.pvE (by first | with_reducible rfl | (first | rfl | (rw [hnx]))), ?_⟩; refine ⟨.pvE (by first | with_reducible rfl | (first | rfl | (rw [hnx]))), ?_⟩; (iterate 2 refine ⟨.eq rfl rfl, ?_⟩); (iterate 2 exact trivial))) rfl⟩
    · obtain rfl : st = s := by omega
      rw [hV]
      (refine zq ?_; refine zs ?_; refine zd ?_; refine zo ?_; refine zk ?_; refine AW.exit ?_; (iterate 2 refine thenD_exit ?_); refine inBlockD_exit ?_; refine iterEndsN_ready (.inl rfl) rfl ?_; (try refine nz ?_); refine inBlockD_n ?_; refine thenD_n ?_; refine zq ?_; refine zb ?_; refine AOps.assign_own rfl rfl rfl ?_; refine zd ?_; refine AW.ret ?_)
      (apply ends_ret; (exact Res.one (.tmp rfl rfl)); (exact Le.own _ _ _ _ rfl))
end Go.Ab
/- Chapter 24: the predicate of a permutation, walked. -/
namespace Go.Ab
open Go Go.Proofs Go.RowKit
open Nat (reduceAdd reduceSub)
set_option maxRecDepth 20000
set_option maxHeartbeats 4000000
theorem predM_cons (gs : List GateM) (perm : List Int) {order : List Int} {k : Nat} (h : k < order.length) : predM gs perm (order.drop k) = predS perm order[k] (predM gs perm (order.drop (k + 1))) := by
  rw [List.drop_eq_getElem_cons h]; rfl
attribute [local irreducible] AW AOps thenD inBlockD AR iterEnds roundEndsN inlEnds noGotoD findG EndsX invTo invM predM andG inputG orG notR
theorem predicate_fn (gs : List GateM) (perm order : List Int) (hc : CirOk gs) (hp : PermOk perm) (hn : perm.length ≤ 1000) (ho : ∀ w ∈ order, 1 ≤ w ∧ w ≤ perm.length) (hol : order.length ≤ 1000) (hl : gs.length + 6 * order.length < 18000) :
    FnX Try.prog 28 1 (bO gs) [.ptr 0 0, .pv (ints perm), .pv (ints order)] (bO (predM gs perm order).1) (litI (predM gs perm order).2) := by
  have hiv := inverse_fn perm hp (by omega)
  have hil := inv_len perm
  simp only [bO]
  refine FnX.enter (n := 57) Try.func28 rfl rfl rfl rfl rfl (by decide) rfl rfl fun g hro_ hwt_ => ?_; (conv => rhs; simp only [Nf.en0, Nf.en1, Nf.pi0, Nf.pir, Nf.pib, Nf.pim, Nf.cn, Nf.nn, Nat.reduceAdd, Nat.zero_add])
  (refine zq ?_; refine AOps.box rfl rfl rfl rfl ?_; refine nz ?_; refine za ?_; refine zd ?_; refine zq ?_; refine nz ?_; refine zm ?_; refine zP (hiv) ?_; refine AOps.allocN' rfl rfl rfl rfl ?_; refine nz ?_; refine AOps.store_b1 rfl rfl rfl rfl rfl rfl rfl rfl rfl (by with_reducible assumption) ?_; refine nz ?_; refine zd ?_; refine zq ?_; refine AOps.allocN' rfl rfl rfl rfl ?_; refine nz ?_; refine AOps.store_b1 rfl rfl rfl rfl rfl rfl rfl rfl rfl (by with_reducible assumption) ?_; refine nz ?_; refine zd ?_; refine zo ?_; refine zq ?_; refine zm ?_; (with_reducible apply AOps.inline (hf := Try.func55)); (with_reducible assumption); (iterate 10 exact rfl); intro g_ hro_ hwt_; refine nz ?_; refine zq ?_; refine AOps.box rfl rfl rfl rfl ?_; refine nz ?_; refine za ?_; refine zd ?_; refine zq ?_; refine nz ?_; refine AOps.makeFunc_c rfl rfl rfl ?_; refine AOps.assign rfl rfl rfl ?_; refine nz ?_; refine zd ?_; refine AW.ret ?_; refine inlEnds_rclo rfl rfl ?_; refine nz ?_; refine zd ?_; refine AW.block ?_)
  refine AW.rangeFuncUH (ps := [19, 20]) (by assumption) (by assumption) rfl rfl Try.func79 rfl rfl rfl rfl rfl rfl (by decide) ?_
  intro gB tm0 l0 ps0 asg0 body0 hcode0 hroB hwtB hheld0 hupB htm0
  have htm0' : tm0.size = 57 := htm0
  (refine zq ?_; refine nz ?_; refine zb ?_; refine zn ?_; refine AOps.sub rfl rfl rfl rfl rfl (by omega) ?_; refine za ?_; refine zd ?_; refine AW.block ?_)
  (refine nz ?_; apply AW.loopR [0, 1, 1008, 1007, 1006, 1003, 2000] [5, 4, 2, 1] (fun k : Nat => ([(3, litI ((k : Int) - 1))] : List (Nat × AV))) (fun k : Nat => ([(0, some (.box [.pv (gatesV (predM gs perm (order.drop k)).1)])), (3, some (.box [litI (predM gs perm (order.drop k)).2]))] : List (Nat × Option Ob))) (fun k : Nat => k ≤ order.length) (fun k : Nat => k) (order.length); (conv => lhs; simp only [Nf.lpR, Nf.all, Nat.reduceBEq, reduceAdd, reduceSub]); (all_goals skip))
  · exact Nat.le_refl _
  · exact weak rfl (by (refine ⟨.intE (by first | with_reducible rfl | (first | rfl | (rw [List.drop_length]; rfl) | (rw [List.drop_length]; unfold predM; rfl))), ?_⟩; (iterate 4 refine ⟨.eq rfl rfl, ?_⟩); refine ⟨.intE (by first | with_reducible rfl | (first | rfl | (rw [List.drop_length]; rfl) | (rw [List.drop_length]; unfold predM; rfl))), ?_⟩; (iterate 2 refine ⟨.eq rfl rfl, ?_⟩); exact trivial)) (by (refine ⟨.box _ rfl ?_, ?_⟩; refine ⟨.pvE (by first | with_reducible rfl | (first | rfl | (rw [List.drop_length]; rfl) | (rw [List.drop_length]; unfold predM; rfl))), ?_⟩; exact trivial; refine ⟨.box _ rfl ?_, ?_⟩; refine ⟨.intE (by first | with_reducible rfl | (first | rfl | (rw [List.drop_length]; rfl) | (rw [List.drop_length]; unfold predM; rfl))), ?_⟩; exact trivial; refine ⟨.loop rfl, ?_⟩; refine ⟨.box _ rfl ?_, ?_⟩; refine ⟨.pvE (by first | with_reducible rfl | (first | rfl | (rw [List.drop_length]; rfl) | (rw [List.drop_length]; unfold predM; rfl))), ?_⟩; exact trivial; refine ⟨.box _ rfl ?_, ?_⟩; refine ⟨.pvE (by first | with_reducible rfl | (first | rfl | (rw [List.drop_length]; rfl) | (rw [List.drop_length]; unfold predM; rfl))), ?_⟩; exact trivial; refine ⟨.box _ rfl ?_, ?_⟩; refine ⟨.eq rfl rfl, ?_⟩; (iterate 2 exact trivial))) rfl
  rintro k hk
  cases k with
  | zero =>
    rw [show (((0 : Nat) : Int) - 1) = -1 from rfl, List.drop_zero]
    (refine zo ?_; refine zq ?_; refine zm ?_; refine AOps.geq rfl rfl rfl rfl rfl ?_; refine zd ?_; refine AW.cond_lf rfl rfl ?_; refine AW.exit ?_; (iterate 2 refine thenD_exit ?_); refine inBlockD_exit ?_; refine iterEndsN_ready (.inl rfl) rfl ?_; (try refine nz ?_); refine inBlockD_n ?_; refine thenD_n ?_; refine zq ?_; refine zb ?_; refine za ?_; refine zd ?_; refine AW.ret ?_)
    (apply endsX_ret; ((exact Res.one (.tmp rfl rfl))); ((refine ⟨.intE (by first | with_reducible rfl | (rfl)), ?_⟩; refine ⟨.eq rfl rfl, ?_⟩; exact trivial)); ((refine ⟨.box _ rfl ?_, ?_⟩; refine ⟨.pvE (by first | with_reducible rfl | (rfl)), ?_⟩; (iterate 2 exact trivial))); exact rfl)
  | succ j =>
    rw [show (((j + 1 : Nat) : Int) - 1) = (j : Int) by omega]
    have hlt : j < order.length := by omega
    have hw := ho _ (List.getElem_mem hlt)
    have hcons := predM_cons gs perm hlt
    have hdl : (order.drop (j + 1)).length ≤ order.length - 1 := by rw [List.length_drop]; omega
    have hpk := pred_ok hc hp hn (order.drop (j + 1)) (fun w hw => ho w (List.mem_of_mem_drop hw)) (by omega)
    generalize order.drop (j + 1) = od at hdl hcons hpk ⊢
    generalize predM gs perm od = p at hcons hpk ⊢
    obtain ⟨g0, r0⟩ := p
    obtain ⟨hc0, hr0, hle0, hlen0, _, _, _⟩ := hpk
    simp only at hc0 hr0 hle0 hlen0 ⊢
    have hb := hp.back hw
    have hbl : (order[j] - 1).toNat < (invM perm).length := by omega
    have hbi := inv_at hw hbl
    unfold predS at hcons
    by_cases he : backM perm order[j] = order[j]
    · rw [if_pos he] at hcons
      rw [he] at hbi
      (refine zo ?_; refine zq ?_; refine zm ?_; refine AOps.geq rfl rfl rfl rfl rfl ?_; refine zd ?_; refine AW.cond_lt rfl rfl ?_; refine AW.skip ?_; refine thenD_n ?_; refine zo ?_; refine AW.block ?_; refine zq ?_; refine nz ?_; refine AOps.move rfl rfl rfl ?_; refine nz ?_; refine zm ?_; refine zb ?_; refine zm ?_; (focus ((with_reducible apply AOps.index_map); (iterate 7 exact rfl); rotate_left; omega)); refine zr ?_; (with_reducible apply AOps.yieldN0 hcode0 hwtB hheld0 htm0'); (iterate 8 exact rfl); intro gR hroR_ hwtR hupR; (try refine nz ?_); refine AW.region ?_; refine za ?_; refine zd ?_; refine And.intro (show isLp _ _ _ _ from ⟨_, _, _, _, rfl⟩) ?_; (try refine nz ?_); refine AW.block ?_; refine zo ?_; refine zq ?_; refine zb ?_; refine zm ?_; refine AOps.sub rfl rfl rfl rfl rfl (by omega) ?_; (focus ((with_reducible apply AOps.index_mapI); (iterate 7 exact rfl); omega; rotate_left; (first | omega | exact Nat.zero_lt_one | exact (by simp)))); refine zr ?_; refine zm ?_; refine AOps.eql rfl rfl rfl rfl rfl ?_; refine zd ?_; refine zc ?_; refine AW.exit ?_; refine thenD_exit ?_; refine inBlockD_exit ?_; (with_reducible apply roundEndsN_n); exact ⟨_, _, _, _, rfl⟩; refine nz ?_; refine AOps.not rfl rfl rfl ?_; refine zd ?_; refine AW.cond_lf rfl rfl ?_; refine AW.skip ?_; refine inBlockD_n ?_; refine thenD_n ?_; refine AW.region ?_; refine nz ?_; refine zm ?_; refine AOps.sub rfl rfl rfl rfl rfl (by omega) ?_; refine za ?_; refine zd ?_)
      exact ⟨j, by omega, by omega, weak rfl (by (refine ⟨.intE (by first | with_reducible rfl | (first | rfl | (rw [hcons]))), ?_⟩; (iterate 4 refine ⟨.eq rfl rfl, ?_⟩); refine ⟨.intE (by first | with_reducible rfl | (first | rfl | (rw [hcons]))), ?_⟩; (iterate 2 refine ⟨.eq rfl rfl, ?_⟩); exact trivial)) (by (refine ⟨.box _ rfl ?_, ?_⟩; refine ⟨.pvE (by first | with_reducible rfl | (first | rfl | (rw [hcons]))), ?_⟩; exact trivial; refine ⟨.box _ rfl ?_, ?_⟩; refine ⟨.intE (by first | with_reducible rfl | (first | rfl | (rw [hcons]))), ?_⟩; exact trivial; refine ⟨.loop rfl, ?_⟩; refine ⟨.box _ rfl ?_, ?_⟩; refine ⟨.pvE (by first | with_reducible rfl | (first | rfl | (rw [hcons]))), ?_⟩; exact trivial; refine ⟨.box _ rfl ?_, ?_⟩; refine ⟨.pvE (by first | with_reducible rfl | (first | rfl | (rw [hcons]))), ?_⟩; exact trivial; refine ⟨.box _ rfl ?_, ?_⟩; refine ⟨.eq rfl rfl, ?_⟩; (iterate 2 exact trivial))) rfl⟩
    · rw [if_neg he] at hcons
      rw [← hbi] at hcons he hb
      simp only at hcons
      generalize hvv : (invM perm)[(order[j] - 1).toNat] = bw at hcons he hb
      have g1 := input_ok hc0 (v := order[j]) (by omega) (by omega)
      have x1 := bInput_fn g0 order[j] (by omega) hc0.pos
      generalize inputG g0 order[j] = i1 at g1 x1 hcons
      obtain ⟨gs1, r1⟩ := i1
      obtain ⟨c1, q1, l1, m1⟩ := g1
      simp only at c1 q1 l1 m1 x1 hcons
      have g2 := input_ok c1 (v := bw) (by omega) (by omega)
      have x2 := bInput_fn gs1 bw (by omega) c1.pos
      generalize inputG gs1 bw = i2 at g2 x2 hcons
      obtain ⟨gs2, r2⟩ := i2
      obtain ⟨c2, q2, l2, m2⟩ := g2
      simp only at c2 q2 l2 m2 x2 hcons
      have t1 := q1.mono l2
      have b1 := q1.2
      have b1' := q1.1
      have b2 := q2.2
      have b2' := q2.1
      have n2 := pNot_fn r2 (by omega)
      have o2 := notR_ok q2
      generalize notR r2 = nr2 at n2 o2 hcons
      have o2' := o2.1
      have o2'' := o2.2
      have g3 := and_ok c2 t1 o2 (by omega)
      have x3 := bAnd_fn gs2 r1 nr2 (by omega) c2.pos (by omega) (by omega)
      generalize andG gs2 r1 nr2 = i3 at g3 x3 hcons
      obtain ⟨gs3, r3⟩ := i3
      obtain ⟨c3, q3, l3, m3⟩ := g3
      simp only at c3 q3 l3 m3 x3 hcons
      have b3 := q3.2
      have b3' := q3.1
      have n1 := pNot_fn r1 (by omega)
      have o1 := notR_ok (t1.mono l3)
      generalize notR r1 = nr1 at n1 o1 hcons
      have o1' := o1.1
      have o1'' := o1.2
      have g4 := and_ok c3 o1 (q2.mono l3) (by omega)
      have x4 := bAnd_fn gs3 nr1 r2 (by omega) c3.pos (by omega) (by omega)
      generalize andG gs3 nr1 r2 = i4 at g4 x4 hcons
      obtain ⟨gs4, r4⟩ := i4
      obtain ⟨c4, q4, l4, m4⟩ := g4
      simp only at c4 q4 l4 m4 x4 hcons
      have b4 := q4.2
      have b4' := q4.1
      have b0 := hr0.2
      have b0' := hr0.1
      have n3 := pNot_fn r3 (by omega)
      have o3 := notR_ok (q3.mono l4)
      generalize notR r3 = nr3 at n3 o3 hcons
      have o3' := o3.1
      have o3'' := o3.2
      have g5 := or_ok c4 q4 ((((hr0.mono l1).mono l2).mono l3).mono l4) (by omega)
      have x5 := bOr_fn gs4 r4 r0 (by omega) c4.pos (by omega) (by omega)
      generalize orG gs4 r4 r0 = i5 at g5 x5 hcons
      obtain ⟨gs5, r5⟩ := i5
      obtain ⟨c5, q5, l5, m5⟩ := g5
      simp only at c5 q5 l5 m5 x5 hcons
      have b5 := q5.2
      have b5' := q5.1
      have x6 := bAnd_fn gs5 nr3 r5 (by omega) c5.pos (by omega) (by omega)
      generalize andG gs5 nr3 r5 = i6 at x6 hcons
      obtain ⟨gs6, r6⟩ := i6
      simp only at x6 hcons
      simp only [bO] at x1 x2 x3 x4 x5 x6
      have he' : ¬ (invM perm)[(order[j] - 1).toNat] = order[j] := by rw [hvv]; exact he
      rw [← hvv] at x2
      (refine zo ?_; refine zq ?_; refine zm ?_; refine AOps.geq rfl rfl rfl rfl rfl ?_; refine zd ?_; refine AW.cond_lt rfl rfl ?_; refine AW.skip ?_; refine thenD_n ?_; refine zo ?_; refine AW.block ?_; refine zq ?_; refine nz ?_; refine AOps.move rfl rfl rfl ?_; refine nz ?_; refine zm ?_; refine zb ?_; refine zm ?_; (focus ((with_reducible apply AOps.index_map); (iterate 7 exact rfl); rotate_left; omega)); refine zr ?_; (with_reducible apply AOps.yieldN0 hcode0 hwtB hheld0 htm0'); (iterate 8 exact rfl); intro gR hroR_ hwtR hupR; (try refine nz ?_); refine AW.region ?_; refine za ?_; refine zd ?_; refine And.intro (show isLp _ _ _ _ from ⟨_, _, _, _, rfl⟩) ?_; (try refine nz ?_); refine AW.block ?_; refine zo ?_; refine zq ?_; refine zb ?_; refine zm ?_; refine AOps.sub rfl rfl rfl rfl rfl (by omega) ?_; (focus ((with_reducible apply AOps.index_mapI); (iterate 7 exact rfl); omega; rotate_left; (first | omega | exact Nat.zero_lt_one | exact (by simp)))); refine zr ?_; refine zm ?_; refine AOps.eql rfl rfl rfl rfl rfl ?_; refine zd ?_; refine zk ?_; refine AW.skip ?_; refine thenD_n ?_; refine zq ?_; refine nz ?_; refine zb ?_; refine zm ?_; refine zX (x1) ?_; refine nx ?_; refine nz ?_; refine za ?_; refine zd ?_; refine zo ?_; refine AW.regionM [0, 1, 2, 3, 4, 5] [6] rfl (by assumption) (by kernel_rfl) (by kernel_rfl) rfl ?_; show AOps .held _ _ _ [_, _, _, _, _, _] _ _; (iterate 2 refine zb ?_); refine zm ?_; refine AOps.sub rfl rfl rfl rfl rfl (by omega) ?_; (focus ((with_reducible apply AOps.index_mapI); (iterate 7 exact rfl); omega; rotate_left; (first | omega | exact Nat.zero_lt_one | exact (by simp)))); refine zr ?_; refine AOps.nil ?_; refine onlyN_n ?_; intro k_ hk_; refine nz ?_; refine AR.step1LM (i := 6) rfl (by kernel_rfl) rfl (by kernel_rfl) ?_; intro g_ hgro_ hwt2_; refine zX (x2) ?_; refine nx ?_; refine nz ?_; refine AOps.nil ?_; refine onlyN_n ?_; refine AR.step1LM (i := 7) rfl (by kernel_rfl) rfl (by kernel_rfl) ?_; intro g_ hgro_ hwt2_; refine za ?_; refine AOps.nil ?_; refine onlyN_n ?_; refine AR.doneM (by assumption) (by kernel_rfl) ?_; refine thenD_n ?_; refine zo ?_; refine AW.regionM [0, 1, 2] [4] rfl (by assumption) (by kernel_rfl) (by kernel_rfl) rfl ?_; show AOps .held _ _ _ [_, _, _] _ _; refine zb ?_; (iterate 2 refine zm ?_); refine AOps.nil ?_; refine onlyN_n ?_; intro k_ hk_; refine nz ?_; refine AR.step1M (i := 3) rfl (by kernel_rfl) rfl ?_; intro g_ hgro_ hw_; refine zA (n2) ?_; refine AOps.nil ?_; refine onlyN_n ?_; refine AR.step1LM (i := 4) rfl (by kernel_rfl) rfl (by kernel_rfl) ?_; intro g_ hgro_ hwt2_; refine zX (x3) ?_; refine nx ?_; refine nz ?_; refine AOps.nil ?_; refine onlyN_n ?_; refine AR.step1LM (i := 5) rfl (by kernel_rfl) rfl (by kernel_rfl) ?_; intro g_ hgro_ hwt2_; refine za ?_; refine AOps.nil ?_; refine onlyN_n ?_; refine AR.doneM (by assumption) (by kernel_rfl) ?_; refine thenD_n ?_; refine zo ?_; refine AW.regionM [0, 1, 3] [4] rfl (by assumption) (by kernel_rfl) (by kernel_rfl) rfl ?_; show AOps .held _ _ _ [_, _, _] _ _; refine zb ?_; (iterate 2 refine zm ?_); refine AOps.nil ?_; refine onlyN_n ?_; intro k_ hk_; refine nz ?_; refine AR.step1M (i := 2) rfl (by kernel_rfl) rfl ?_; intro g_ hgro_ hw_; refine zA (n1) ?_; refine AOps.nil ?_; refine onlyN_n ?_; refine AR.step1LM (i := 4) rfl (by kernel_rfl) rfl (by kernel_rfl) ?_; intro g_ hgro_ hwt2_; refine zX (x4) ?_; refine nx ?_; refine nz ?_; refine AOps.nil ?_; refine onlyN_n ?_; refine AR.step1LM (i := 5) rfl (by kernel_rfl) rfl (by kernel_rfl) ?_; intro g_ hgro_ hwt2_; refine za ?_; refine AOps.nil ?_; refine onlyN_n ?_; refine AR.doneM (by assumption) (by kernel_rfl) ?_; refine thenD_n ?_; refine AW.regionM [1, 3, 4, 5] [6] rfl (by assumption) (by kernel_rfl) (by kernel_rfl) rfl ?_; show AOps .held _ _ _ [_, _, _, _] _ _; refine zm ?_; refine zb ?_; refine zm ?_; refine zb ?_; refine AOps.nil ?_; refine onlyN_n ?_; intro k_ hk_; refine nz ?_; apply AR.cut [5, 4, 3, 1, 0, 2, 6]; intro hJ_; (refine AR.step2M (i := 0) (j := 2) rfl (by kernel_rfl) rfl rfl ?_ ?_ <;> intro g_ hgro_ hw_); refine zb ?_; refine AOps.nil ?_; refine onlyN_n ?_; refine AR.step1M (i := 2) rfl (by kernel_rfl) rfl ?_; intro g_ hgro_ hw_; refine zA (n3) ?_; refine AOps.nil ?_; refine onlyN_n ?_; refine AR.step1LM (i := 6) rfl (by kernel_rfl) rfl (by kernel_rfl) ?_; intro g_ hgro_ hwt2_; refine zX (x5) ?_; refine nx ?_; refine nz ?_; refine AOps.nil ?_; refine onlyN_n ?_; (try refine nz ?_); refine AR.dd ?_; (conv => rhs; simp only [Nf.ddR, Nf.all, Nat.reduceBEq, reduceAdd, reduceSub]); exact AR.perm (by kernel_rfl) hJ_; refine zA (n3) ?_; refine AOps.nil ?_; refine onlyN_n ?_; (refine AR.step2L (i := 0) (j := 6) rfl (by kernel_rfl) rfl rfl (by kernel_rfl) ?_ ?_ <;> intro g_ hgro_ hwt2_); refine zb ?_; refine AOps.nil ?_; refine onlyN_n ?_; refine AR.step1LM (i := 6) rfl (by kernel_rfl) rfl (by kernel_rfl) ?_; intro g_ hgro_ hwt2_; refine zX (x5) ?_; refine nx ?_; refine nz ?_; refine AOps.nil ?_; refine onlyN_n ?_; (try refine nz ?_); refine AR.meet hJ_ (by kernel_rfl) (fun g_ => weak rfl ?_ ?_ rfl); (iterate 61 refine ⟨.eq rfl rfl, ?_⟩); exact trivial; refine ⟨.box _ rfl ?_, ?_⟩; refine ⟨.eq rfl rfl, ?_⟩; exact trivial; refine ⟨.loop rfl, ?_⟩; refine ⟨.box _ rfl ?_, ?_⟩; refine ⟨.eq rfl rfl, ?_⟩; exact trivial; refine ⟨.box _ rfl ?_, ?_⟩; refine ⟨.eq rfl rfl, ?_⟩; exact trivial; refine ⟨.box _ rfl ?_, ?_⟩; refine ⟨.eq rfl rfl, ?_⟩; exact trivial; refine ⟨.box _ rfl ?_, ?_⟩; refine ⟨.eq rfl rfl, ?_⟩; (iterate 2 exact trivial); refine zX (x5) ?_; refine nx ?_; refine nz ?_; refine AOps.nil ?_; refine onlyN_n ?_; refine AR.step1LM (i := 0) rfl (by kernel_rfl) rfl (by kernel_rfl) ?_; intro g_ hgro_ hwt2_; refine zb ?_; refine AOps.nil ?_; refine onlyN_n ?_; (try refine nz ?_); refine AR.meet hJ_ (by kernel_rfl) (fun g_ => weak rfl ?_ ?_ rfl); (iterate 61 refine ⟨.eq rfl rfl, ?_⟩); exact trivial; refine ⟨.box _ rfl ?_, ?_⟩; refine ⟨.eq rfl rfl, ?_⟩; exact trivial; refine ⟨.loop rfl, ?_⟩; refine ⟨.box _ rfl ?_, ?_⟩; refine ⟨.eq rfl rfl, ?_⟩; exact trivial; refine ⟨.box _ rfl ?_, ?_⟩; refine ⟨.eq rfl rfl, ?_⟩; exact trivial; refine ⟨.box _ rfl ?_, ?_⟩; refine ⟨.eq rfl rfl, ?_⟩; exact trivial; refine ⟨.box _ rfl ?_, ?_⟩; refine ⟨.eq rfl rfl, ?_⟩; (iterate 2 exact trivial); refine AR.step1LM (i := 7) rfl (by kernel_rfl) rfl (by kernel_rfl) ?_; intro g_ hgro_ hwt2_; refine zX (x6) ?_; refine nx ?_; refine nz ?_; refine AOps.nil ?_; refine onlyN_n ?_; refine AR.step1LM (i := 8) rfl (by kernel_rfl) rfl (by kernel_rfl) ?_; intro g_ hgro_ hwt2_; refine AOps.store_b1 rfl rfl rfl rfl rfl rfl rfl rfl rfl (by with_reducible assumption) ?_; refine nz ?_; refine AOps.nil ?_; refine onlyN_n ?_; refine AR.doneM (by assumption) (by kernel_rfl) ?_; refine inBlockD_n ?_; (with_reducible apply roundEndsN_n); exact ⟨_, _, _, _, rfl⟩; refine nz ?_; refine AOps.not rfl rfl rfl ?_; refine zd ?_; refine AW.cond_lf rfl rfl ?_; refine AW.skip ?_; refine inBlockD_n ?_; refine thenD_n ?_; refine AW.region ?_; refine nz ?_; refine zm ?_; refine AOps.sub rfl rfl rfl rfl rfl (by omega) ?_; refine za ?_; refine zd ?_)
      exact ⟨j, by omega, by omega, weak rfl (by (refine ⟨.intE (by first | with_reducible rfl | (first | rfl | (rw [hcons]))), ?_⟩; (iterate 4 refine ⟨.eq rfl rfl, ?_⟩); refine ⟨.intE (by first | with_reducible rfl | (first | rfl | (rw [hcons]))), ?_⟩; (iterate 2 refine ⟨.eq rfl rfl, ?_⟩); exact trivial)) (by (refine ⟨.box _ rfl ?_, ?_⟩; refine ⟨.pvE (by first | with_reducible rfl | (first | rfl | (rw [hcons]))), ?_⟩; exact trivial; refine ⟨.box _ rfl ?_, ?_⟩; refine ⟨.intE (by first | with_reducible rfl | (first | rfl | (rw [hcons]))), ?_⟩; exact trivial; refine ⟨.loop rfl, ?_⟩; refine ⟨.box _ rfl ?_, ?_⟩; refine ⟨.pvE (by first | with_reducible rfl | (first | rfl | (rw [hcons]))), ?_⟩; exact trivial; refine ⟨.box _ rfl ?_, ?_⟩; refine ⟨.pvE (by first | with_reducible rfl | (first | rfl | (rw [hcons]))), ?_⟩; exact trivial; refine ⟨.box _ rfl ?_, ?_⟩; refine ⟨.eq rfl rfl, ?_⟩; (iterate 2 exact trivial))) rfl⟩
end Go.Ab
/- Chapter 24: Predicate, walked. -/
namespace Go.Ab
open Go Go.Proofs Go.RowKit
open Nat (reduceAdd reduceSub)
set_option maxRecDepth 20000
set_option maxHeartbeats 4000000
attribute [local irreducible] AW AOps thenD inBlockD AR iterEnds roundEndsN inlEnds noGotoD findG EndsX invTo invM predM andG inputG orG notR
theorem pPredicate_fn (gs : List GateM) (perm order : List Int) (hc : CirOk gs) (hp : PermOk perm) (hn : perm.length ≤ 1000) (ho : ∀ w ∈ order, 1 ≤ w ∧ w ≤ perm.length) (hol : order.length ≤ 1000) (hl : gs.length + 6 * order.length < 18000) :
    Fn Try.prog 11 [crc gs, .pv (ints perm), .pv (ints order)] (.tup [crc (predM gs perm order).1, litI (predM gs perm order).2]) := by
  have hx := predicate_fn gs perm order hc hp hn ho hol hl
  generalize predM gs perm order = p at hx ⊢
  obtain ⟨g1, r1⟩ := p
  simp only [bO] at hx ⊢
  refine Fn.enter (n := 22) Try.func11 rfl rfl rfl rfl rfl (by decide) fun g hro_ hwt_ => ?_; (try refine nz ?_)
  (refine zq ?_; refine AOps.box rfl rfl rfl rfl ?_; refine nz ?_; refine AOps.allocN' rfl rfl rfl rfl ?_; refine nz ?_; refine za ?_; refine zd ?_; refine zq ?_; refine nz ?_; refine zL ?_; refine nz ?_; refine AOps.buildN 79 [0] rfl rfl rfl rfl rfl rfl rfl rfl rfl ?_; refine nz ?_; refine AOps.box rfl rfl rfl rfl ?_; refine nz ?_; refine AOps.assign_ptr rfl rfl rfl ?_; refine zd ?_; (with_reducible apply AW.swP 2 8 2 0); (with_reducible assumption); (iterate 3 exact rfl); (conv => rhs; simp only [Nf.swR, Nf.all, Nat.reduceBEq, reduceAdd, reduceSub]); refine zq ?_; refine AOps.move_ptr rfl rfl rfl ?_; (iterate 2 refine zm ?_); refine zX (hx) ?_; refine nx ?_; refine nz ?_; refine za ?_; refine zd ?_; refine zq ?_; refine nz ?_; refine AOps.move_ptr rfl rfl rfl ?_; refine AOps.nilCheck_ptr rfl rfl rfl ?_; refine AOps.fieldAddrN 79 0 0 rfl rfl rfl rfl ?_; refine zL ?_; refine nz ?_; refine zm ?_; refine zB ?_; refine nz ?_; refine za ?_; refine zd ?_; refine AW.ret ?_)
  (apply ends_ret; (exact Res.two (.cell rfl rfl rfl rfl) (.tmp rfl rfl)); (refine Le.tupL ?_; refine LeL.cons ?_ ?_; refine Le.aggL ?_; refine LeL.cons ?_ ?_; (with_reducible exact Le.pv _); exact LeL.nil; refine LeL.cons ?_ ?_; refine Le.litI ?_; (rfl); exact LeL.nil))
end Go.Ab
/- Chapter 24: Breaking, walked. -/
namespace Go.Ab
open Go Go.Proofs Go.RowKit
open Nat (reduceAdd reduceSub)
set_option maxRecDepth 20000
set_option maxHeartbeats 4000000
attribute [local irreducible] AW AOps thenD inBlockD AR iterEnds roundEndsN inlEnds noGotoD sortL predM andG brkM litV
theorem clone_fnO (l : List Int) (hl : l.length ≤ 1000000) : FnO Try.prog 37 [.pv (ints l)] 3 1 (l.map nI) := by
  rw [show l.map nI = l.map encI from rfl]
  refine FnO.enter (n := 8) Try.func37 rfl rfl rfl rfl rfl (by decide) fun g hro_ hwt_ => ?_; (try refine nz ?_)
  by_cases h0 : l = []
  · subst h0
    have e0 : ([] : List Int).length = 0 := rfl
    (refine zq ?_; refine za ?_; refine zd ?_; refine zo ?_; refine zq ?_; refine nz ?_; refine zm ?_; (focus ((with_reducible apply AOps.eqlNil); (iterate 6 exact rfl); all_goals intro hc_)); refine zd ?_; refine AW.cond_lt rfl rfl ?_; refine zq ?_; refine nz ?_; refine za ?_; refine zd ?_; refine AW.ret ?_; refine thenD_ret ?_; (all_goals skip); rotate_left; refine zd ?_; refine AW.cond_lf rfl rfl ?_; refine AW.skip ?_; refine thenD_n ?_; refine zq ?_; refine nz ?_; refine AOps.bs0 rfl rfl rfl rfl rfl ?_; refine nz ?_; refine zm ?_; (with_reducible apply AOps.appendS); exact rfl; (first | exact .pv rfl | exact .own rfl | exact .nil rfl); (iterate 9 exact rfl); (first | omega | (simp only [List.length_map, List.length_append, List.length_cons, List.length_nil, List.length_drop, List.length_take, List.length_set, chunk_len]; omega)); refine nz ?_; refine AOps.assign_own rfl rfl rfl ?_; refine zd ?_; refine AW.ret ?_; (all_goals skip); rotate_left)
    all_goals ((first | (refine endsO_ret (Res.one (.tmp rfl rfl)) ?_) | (refine endsO_ret (Res.one (.cell1 rfl rfl rfl rfl)) ?_) | (refine endsO_nil (Res.one (.tmp rfl rfl)) ?_)); (first | rfl | simp))
  · have e0 : 0 < l.length := List.length_pos_iff.2 h0
    have e1 : ¬ l.map encI = [] := by simpa using h0
    clear h0
    (refine zq ?_; refine za ?_; refine zd ?_; refine zo ?_; refine zq ?_; refine nz ?_; refine zm ?_; (focus ((with_reducible apply AOps.eqlNil); (iterate 6 exact rfl); all_goals intro hc_)); refine zd ?_; refine AW.cond_lt rfl rfl ?_; refine zq ?_; refine nz ?_; refine za ?_; refine zd ?_; refine AW.ret ?_; refine thenD_ret ?_; (all_goals skip); rotate_left; refine zd ?_; refine AW.cond_lf rfl rfl ?_; refine AW.skip ?_; refine thenD_n ?_; refine zq ?_; refine nz ?_; refine AOps.bs0 rfl rfl rfl rfl rfl ?_; refine nz ?_; refine zm ?_; (with_reducible apply AOps.appendS); exact rfl; (first | exact .pv rfl | exact .own rfl | exact .nil rfl); (iterate 9 exact rfl); (first | omega | (simp only [List.length_map, List.length_append, List.length_cons, List.length_nil, List.length_drop, List.length_take, List.length_set, chunk_len]; omega)); refine nz ?_; refine AOps.assign_own rfl rfl rfl ?_; refine zd ?_; refine AW.ret ?_; (all_goals skip); rotate_left)
    · exact absurd hc_ e1
    · ((first | (refine endsO_ret (Res.one (.tmp rfl rfl)) ?_) | (refine endsO_ret (Res.one (.cell1 rfl rfl rfl rfl)) ?_) | (refine endsO_nil (Res.one (.tmp rfl rfl)) ?_)); (first | rfl | simp))
theorem breaking_fn (s : SpecM) (at' : List Int) (st : Nat) (bs : List BndM) (ps : List (List Int)) (gs : List GateM) (n : Nat) (hc : CirOk gs) (hL : ∀ p ∈ ps, LitOk s st bs p) (hP : ∀ p ∈ ps, PermN n (litV 0 p.length (arF s.fields) st (vrF s.fields) bs p)) (hn : n ≤ 1000) (hg : gs.length + ps.length * (6 * n + 1) < 18000) :
    Fn Try.prog 18 [spc s, scp at' (st : Int), .pv (bnds bs), .pv (intss ps), crc gs] (.tup [crc (brkM gs (ps.map fun p => litV 0 p.length (arF s.fields) st (vrF s.fields) bs p)).1, litI (brkM gs (ps.map fun p => litV 0 p.length (arF s.fields) st (vrF s.fields) bs p)).2]) := by
  have hlit := fun p h => literals_fn s at' st bs p (hL p h)
  obtain ⟨so, fs, pr, fa⟩ := s
  simp only at *
  generalize hlf : (fun p : List Int => litV 0 p.length (arF fs) st (vrF fs) bs p) = lf
  have hlf' : ∀ p, litV 0 p.length (arF fs) st (vrF fs) bs p = lf p := fun p => by rw [← hlf]
  simp only [hlf'] at hlit hP
  generalize hls : ps.map lf = ls
  have hll : ls.length = ps.length := by rw [← hls, List.length_map]
  have hbk := fun k hk => brk_ok hc (ls := ls) (n := n) (by rw [← hls]; intro l hl; obtain ⟨p, hp, rfl⟩ := List.mem_map.1 hl; exact hP p hp) hn (by rw [hll]; exact hg) k hk
  have hpsl : ps.length ≤ 18000 := by
    have := Nat.le_mul_of_pos_right ps.length (show 0 < 6 * n + 1 by omega)
    omega
  refine Fn.enter (n := 58) Try.func18 rfl rfl rfl rfl rfl (by decide) fun g hro_ hwt_ => ?_; (try refine nz ?_)
  (refine zq ?_; refine AOps.box rfl rfl rfl rfl ?_; refine nz ?_; refine AOps.box rfl rfl rfl rfl ?_; refine nz ?_; refine AOps.box rfl rfl rfl rfl ?_; refine nz ?_; refine AOps.allocN' rfl rfl rfl rfl ?_; refine nz ?_; refine za ?_; refine zd ?_; refine zq ?_; refine nz ?_; refine zL ?_; refine nz ?_; refine AOps.buildN 79 [0] rfl rfl rfl rfl rfl rfl rfl rfl rfl ?_; refine nz ?_; refine AOps.box rfl rfl rfl rfl ?_; refine nz ?_; refine AOps.assign_ptr rfl rfl rfl ?_; refine za ?_; refine zd ?_; refine zq ?_; refine nz ?_; refine AOps.move_ptr rfl rfl rfl ?_; refine AOps.makeFunc_f rfl rfl rfl ?_; refine AOps.assign rfl rfl rfl ?_; refine nz ?_; refine zd ?_; refine zo ?_; (with_reducible apply AW.swP 3 12 4 0); (with_reducible assumption); (iterate 3 exact rfl); (conv => rhs; simp only [Nf.swR, Nf.all, Nat.reduceBEq, reduceAdd, reduceSub]); refine zq ?_; refine zm ?_; refine zn ?_; refine zm ?_; refine zd ?_; refine AW.block ?_)
  (refine nz ?_; apply AW.loopR [25, 24, 14, 12, 11, 10, 6, 5, 2] [3, 1, 4] (fun k : Nat => ([(26, litI k), (13, litI (brkM gs (ls.take k)).2)] : List (Nat × AV))) (fun k : Nat => ([(0, some (.box [.pv (gatesV (brkM gs (ls.take k)).1)]))] : List (Nat × Option Ob))) (fun k : Nat => k ≤ ps.length) (fun k : Nat => ps.length - k) (0); (conv => lhs; simp only [Nf.lpR, Nf.all, Nat.reduceBEq, reduceAdd, reduceSub]); (all_goals skip))
  · exact Nat.zero_le _
  · exact weak rfl (by (refine ⟨.intE (by first | with_reducible rfl | (first | rfl | (unfold brkM; rfl))), ?_⟩; refine ⟨.intE (by first | with_reducible rfl | (first | rfl | (unfold brkM; rfl))), ?_⟩; refine ⟨.intE (by first | with_reducible rfl | (first | rfl | (unfold brkM; rfl))), ?_⟩; refine ⟨.pvE (by first | with_reducible rfl | (first | rfl | (unfold brkM; rfl))), ?_⟩; (iterate 2 refine ⟨.eq rfl rfl, ?_⟩); refine ⟨.intE (by first | with_reducible rfl | (first | rfl | (unfold brkM; rfl))), ?_⟩; (iterate 3 refine ⟨.eq rfl rfl, ?_⟩); refine ⟨.pvE (by first | with_reducible rfl | (first | rfl | (unfold brkM; rfl))), ?_⟩; exact trivial)) (by (refine ⟨.box _ rfl ?_, ?_⟩; refine ⟨.pvE (by first | with_reducible rfl | (first | rfl | (unfold brkM; rfl))), ?_⟩; exact trivial; refine ⟨.box _ rfl ?_, ?_⟩; refine ⟨.eq rfl rfl, ?_⟩; exact trivial; refine ⟨.box _ rfl ?_, ?_⟩; refine ⟨.pvE (by first | with_reducible rfl | (first | rfl | (unfold brkM; rfl))), ?_⟩; refine ⟨.intE (by first | with_reducible rfl | (first | rfl | (unfold brkM; rfl))), ?_⟩; exact trivial; refine ⟨.box _ rfl ?_, ?_⟩; refine ⟨.pvE (by first | with_reducible rfl | (first | rfl | (unfold brkM; rfl))), ?_⟩; refine ⟨.pvE (by first | with_reducible rfl | (first | rfl | (unfold brkM; rfl))), ?_⟩; (iterate 2 refine ⟨.eq rfl rfl, ?_⟩); (iterate 2 exact trivial))) rfl
  rintro k hk
  obtain ⟨c0, r0, l0, m0, _, _, _⟩ := hbk k (by omega)
  have hmul : k * (6 * n + 1) ≤ ps.length * (6 * n + 1) := Nat.mul_le_mul_right _ hk
  by_cases hlt : k < ps.length
  · have hmul2 : (k + 1) * (6 * n + 1) ≤ ps.length * (6 * n + 1) := Nat.mul_le_mul_right _ hlt
    rw [Nat.succ_mul] at hmul2
    have hsn := brk_snoc gs (ls := ls) (k := k) (by omega)
    have hlk : ls[k]'(by omega) = lf ps[k] := by subst hls; rw [List.getElem_map]
    rw [hlk] at hsn
    have hm := List.getElem_mem hlt
    have hPk := hP _ hm
    have hl1 := hlit _ hm
    have hso := sort_ord hPk
    have hpl := hPk.len
    generalize lf ps[k] = l at hsn hPk hl1 hso hpl
    have hcl := clone_fnO l (by omega)
    have hq := pred_lead c0 hPk hn (by omega)
    unfold brkS at hsn
    rw [hpl] at hsn hq
    generalize brkM gs (ls.take k) = p at c0 r0 l0 m0 hsn hq ⊢
    obtain ⟨g0, rr⟩ := p
    simp only at c0 r0 l0 m0 hsn hq ⊢
    have hpx := predicate_fn g0 l (ordM n) c0 hPk.ok (by omega) (fun w hw => by rw [hpl]; exact ord_mem.1 hw) (by rw [ord_len]; omega) (by rw [ord_len]; omega)
    generalize predM g0 l (ordM n) = q at hsn hq hpx
    obtain ⟨g1, r1⟩ := q
    obtain ⟨c1, s1, l1, m1, _, _, _⟩ := hq
    simp only at c1 s1 l1 m1 hsn hpx
    have q0 := (r0.mono l1).1
    have q0' := (r0.mono l1).2
    have q1 := s1.1
    have q1' := s1.2
    have hax := bAnd_fn g1 rr r1 (by omega) c1.pos (by omega) (by omega)
    have ga := and_ok c1 (r0.mono l1) s1 (by omega)
    generalize andG g1 rr r1 = a at hsn hax ga
    obtain ⟨g2, r2⟩ := a
    simp only at hsn hax ga
    have q2 := ga.ref.1
    rw [← hso] at hpx
    simp only [bO] at hpx hax
    (refine zq ?_; refine zs ?_; refine zd ?_; refine zo ?_; refine zc ?_; refine AW.skip ?_; refine thenD_n ?_; refine zo ?_; refine AW.block ?_; refine zq ?_; refine nz ?_; (focus ((with_reducible apply AOps.index_map); (iterate 7 exact rfl); rotate_left; omega)); refine zr ?_; refine za ?_; refine zd ?_; refine zq ?_; refine nz ?_; refine zL ?_; refine nz ?_; refine zL ?_; refine nz ?_; (iterate 2 refine zm ?_); refine zP (hl1) ?_; refine za ?_; refine zd ?_; refine zq ?_; refine nz ?_; refine zm ?_; (with_reducible apply AOps.calloD (hcl)); exact lits_map (fun _ => ⟨_, rfl⟩) _; (repeat (first | exact .nil | (refine .cons rfl ?_ ?_; (first | exact .pv _ | exact .own _ _ _ _ rfl | exact .nil _ | exact .any _ | exact .rptr _ | (refine .aggL ?_; repeat (first | exact .nil | (refine .cons ?_ ?_; (first | exact .pv _ | exact .own _ _ _ _ rfl | exact .nil _)))))))); exact rfl; refine nz ?_; refine AOps.assign_own rfl rfl rfl ?_; refine zd ?_; refine zq ?_; refine nz ?_; refine AOps.move_own rfl rfl rfl ?_; (try refine nz ?_); refine AOps.rowC (sort_rowC) [37, 18, 36] rfl ⟨rfl, rfl, rfl, trivial⟩ rfl rfl rfl ?_; (conv => rhs; simp only [Nf.rwR, Nf.all, Nat.reduceBEq, reduceAdd, reduceSub]); refine zd ?_; refine zq ?_; refine AOps.move_ptr rfl rfl rfl ?_; refine zm ?_; refine AOps.move_clo rfl rfl rfl ?_; refine zm ?_; refine AOps.move_own rfl rfl rfl ?_; refine AOps.frzC rfl rfl ?_; refine nz ?_; refine zX (hpx) ?_; refine nx ?_; refine nz ?_; refine zX (hax) ?_; refine nx ?_; refine nz ?_; refine za ?_; refine zd ?_; refine zq ?_; refine nz ?_; refine zm ?_; refine zs ?_; refine zm ?_; (iterate 2 refine AOps.guardTn rfl rfl rfl rfl rfl rfl (by first | omega | decide) ?_); refine zF ?_; refine zd ?_; refine AW.cond_lf rfl rfl ?_; refine AW.skip ?_; refine inBlockD_n ?_; refine thenD_n ?_; refine AW.region ?_; refine nz ?_; refine zj ?_; refine zm ?_; refine zd ?_)
    exact ⟨k + 1, by omega, by omega, weak rfl (by (refine ⟨.intE (by first | with_reducible rfl | (first | rfl | (rw [hsn]))), ?_⟩; refine ⟨.intE (by first | with_reducible rfl | (first | rfl | (rw [hsn]))), ?_⟩; refine ⟨.intE (by first | with_reducible rfl | (first | rfl | (rw [hsn]))), ?_⟩; refine ⟨.pvE (by first | with_reducible rfl | (first | rfl | (rw [hsn]))), ?_⟩; (iterate 2 refine ⟨.eq rfl rfl, ?_⟩); refine ⟨.intE (by first | with_reducible rfl | (first | rfl | (rw [hsn]))), ?_⟩; (iterate 3 refine ⟨.eq rfl rfl, ?_⟩); refine ⟨.pvE (by first | with_reducible rfl | (first | rfl | (rw [hsn]))), ?_⟩; exact trivial)) (by (refine ⟨.box _ rfl ?_, ?_⟩; refine ⟨.pvE (by first | with_reducible rfl | (first | rfl | (rw [hsn]))), ?_⟩; exact trivial; refine ⟨.box _ rfl ?_, ?_⟩; refine ⟨.eq rfl rfl, ?_⟩; exact trivial; refine ⟨.box _ rfl ?_, ?_⟩; refine ⟨.pvE (by first | with_reducible rfl | (first | rfl | (rw [hsn]))), ?_⟩; refine ⟨.intE (by first | with_reducible rfl | (first | rfl | (rw [hsn]))), ?_⟩; exact trivial; refine ⟨.box _ rfl ?_, ?_⟩; refine ⟨.pvE (by first | with_reducible rfl | (first | rfl | (rw [hsn]))), ?_⟩; refine ⟨.pvE (by first | with_reducible rfl | (first | rfl | (rw [hsn]))), ?_⟩; (iterate 2 refine ⟨.eq rfl rfl, ?_⟩); (iterate 2 exact trivial))) rfl⟩
  · obtain rfl : k = ps.length := by omega
    rw [← hll, List.take_length]
    (refine zq ?_; refine zs ?_; refine zd ?_; refine zo ?_; refine zk ?_; refine AW.exit ?_; (iterate 2 refine thenD_exit ?_); refine inBlockD_exit ?_; refine thenD_n ?_; refine zq ?_; refine nz ?_; refine AOps.move_ptr rfl rfl rfl ?_; refine AOps.nilCheck_ptr rfl rfl rfl ?_; refine AOps.fieldAddrN 79 0 0 rfl rfl rfl rfl ?_; refine zL ?_; refine nz ?_; refine zm ?_; refine zB ?_; refine nz ?_; refine za ?_; refine zd ?_; refine AW.ret ?_)
    (apply ends_ret; (exact Res.two (.cell rfl rfl rfl rfl) (.tmp rfl rfl)); (refine Le.tupL ?_; refine LeL.cons ?_ ?_; refine Le.aggL ?_; refine LeL.cons ?_ ?_; (with_reducible exact Le.pv _); exact LeL.nil; refine LeL.cons ?_ ?_; refine Le.litI ?_; (rfl); exact LeL.nil))
end Go.Ab
/- Chapter 24: chapter 11's reference: equality, composition, inverse, sorts of atoms. -/
namespace Go.Ab
open Go Go.Proofs
open Nat (reduceAdd reduceSub)
set_option maxRecDepth 20000
set_option maxHeartbeats 4000000
theorem take_eq {a b : List Int} {k : Nat} (h1 : k < a.length) (h2 : k < b.length) (h : a.take k = b.take k) (he : a[k] = b[k]) : a.take (k + 1) = b.take (k + 1) := by
  rw [take_succ_get h1, take_succ_get h2, h, he]
attribute [local irreducible] AW AOps thenD inBlockD AR iterEnds roundEndsN inlEnds noGotoD
theorem same11_fn (a b : List Int) (ha : a.length ≤ 1000000) : Fn Try.prog 26 [.pv (ints a), .pv (ints b)] (litB (decide (a = b))) := by
  refine Fn.enter (n := 26) Try.func26 rfl rfl rfl rfl rfl (by decide) fun g hro_ hwt_ => ?_; (try refine nz ?_)
  by_cases hab : a.length = b.length
  · (refine zq ?_; refine za ?_; refine zd ?_; refine zo ?_; refine zq ?_; refine nz ?_; refine zm ?_; refine zn ?_; refine zm ?_; refine zn ?_; refine AOps.neq rfl rfl rfl rfl rfl ?_; refine zd ?_; refine zk ?_; refine AW.skip ?_; refine thenD_n ?_; refine zo ?_; refine zq ?_; refine nz ?_; refine za ?_; refine zd ?_; refine AW.block ?_)
    (refine nz ?_; apply AW.loopR [0, 1] [] (fun k : Nat => ([(5, litI k)] : List (Nat × AV))) (fun k : Nat => ([] : List (Nat × Option Ob))) (fun k : Nat => k ≤ a.length ∧ a.take k = b.take k) (fun k : Nat => a.length - k) (0); (conv => lhs; simp only [Nf.lpR, Nf.all, Nat.reduceBEq, reduceAdd, reduceSub]); (all_goals skip))
    · exact ⟨Nat.zero_le _, rfl⟩
    · exact weak rfl (by (refine ⟨.eq rfl rfl, ?_⟩; (iterate 2 refine ⟨.eq rfl rfl, ?_⟩); exact trivial)) (by (exact trivial)) rfl
    rintro k ⟨hk, hno⟩
    by_cases hlt : k < a.length
    · have hlt2 : k < b.length := by omega
      by_cases he : a[k] = b[k]
      · have hs := take_eq hlt hlt2 hno he
        (refine zo ?_; refine zq ?_; (iterate 2 refine zm ?_); refine zn ?_; refine zs ?_; refine zd ?_; refine zc ?_; refine AW.skip ?_; refine thenD_n ?_; refine zo ?_; refine AW.block ?_; refine zo ?_; (with_reducible apply AW.regionQ); exact rfl; exact rfl; kernel_rfl; (with_reducible assumption); (iterate 2 refine zm ?_); (focus ((with_reducible apply AOps.index_map); (iterate 7 exact rfl); rotate_left; omega)); refine zr ?_; (iterate 2 refine zm ?_); (focus ((with_reducible apply AOps.index_map); (iterate 7 exact rfl); rotate_left; omega)); refine zr ?_; refine AOps.neq rfl rfl rfl rfl rfl ?_; refine zd ?_; refine zk ?_; refine AW.skip ?_; refine inBlockD_n ?_; refine thenD_n ?_; refine AW.region ?_; refine nz ?_; refine zm ?_; refine zj ?_; refine za ?_; refine zd ?_)
        exact ⟨k + 1, ⟨by omega, hs⟩, by omega, weak rfl (by (refine ⟨.eq rfl rfl, ?_⟩; (iterate 2 refine ⟨.eq rfl rfl, ?_⟩); exact trivial)) (by (exact trivial)) rfl⟩
      · have hne : ¬ a = b := by rintro rfl; exact he rfl
        rw [decide_eq_false hne]
        (refine zo ?_; refine zq ?_; (iterate 2 refine zm ?_); refine zn ?_; refine zs ?_; refine zd ?_; refine zc ?_; refine AW.skip ?_; refine thenD_n ?_; refine zo ?_; refine AW.block ?_; refine zo ?_; (with_reducible apply AW.regionQ); exact rfl; exact rfl; kernel_rfl; (with_reducible assumption); (iterate 2 refine zm ?_); (focus ((with_reducible apply AOps.index_map); (iterate 7 exact rfl); rotate_left; omega)); refine zr ?_; (iterate 2 refine zm ?_); (focus ((with_reducible apply AOps.index_map); (iterate 7 exact rfl); rotate_left; omega)); refine zr ?_; refine AOps.neq rfl rfl rfl rfl rfl ?_; refine zd ?_; refine zc ?_; refine zq ?_; refine nz ?_; refine za ?_; refine zd ?_; refine AW.ret ?_; refine inBlockD_ret ?_; (iterate 2 refine thenD_ret ?_); refine inBlockD_ret ?_; refine thenD_ret ?_)
        (apply ends_ret; (exact Res.one (.tmp rfl rfl)); (refine Le.litB ?_; (rfl)))
    · have he : a = b := by
        have h1 : a.take k = a := List.take_of_length_le (by omega)
        have h2 : b.take k = b := List.take_of_length_le (by omega)
        rw [h1, h2] at hno; exact hno
      rw [decide_eq_true he]
      (refine zo ?_; refine zq ?_; (iterate 2 refine zm ?_); refine zn ?_; refine zs ?_; refine zd ?_; refine zk ?_; refine AW.exit ?_; (iterate 2 refine thenD_exit ?_); refine inBlockD_exit ?_; refine thenD_n ?_; refine zq ?_; refine nz ?_; refine za ?_; refine zd ?_; refine AW.ret ?_)
      (apply ends_ret; (exact Res.one (.tmp rfl rfl)); (refine Le.litB ?_; (rfl)))
  · have hne : ¬ a = b := by rintro rfl; exact hab rfl
    rw [decide_eq_false hne]
    (refine zq ?_; refine za ?_; refine zd ?_; refine zo ?_; refine zq ?_; refine nz ?_; refine zm ?_; refine zn ?_; refine zm ?_; refine zn ?_; refine AOps.neq rfl rfl rfl rfl rfl ?_; refine zd ?_; refine zc ?_; refine zq ?_; refine nz ?_; refine za ?_; refine zd ?_; refine AW.ret ?_; refine thenD_ret ?_)
    (apply ends_ret; (exact Res.one (.tmp rfl rfl)); (refine Le.litB ?_; (rfl)))
attribute [local irreducible] compA
/-- the inverse, as far as the first k have been seen; the rest as it was. -/
def invU (p : List Int) (k : Nat) : List Int := (List.range p.length).map fun j : Nat => if p.findIdx (fun x => decide (x = (j : Int))) < k then ((p.findIdx fun x => decide (x = (j : Int)) : Nat) : Int) else p.getD j 0
attribute [local irreducible] invU invA
theorem atoms11_fn (at' : List Int) (st : Int) (h : SmA at') : Fn Try.prog 82 [scp at' st] (litI at'.sum) := by
  have hb := h.take
  have hle := h.1
  refine Fn.enter (n := 20) Try.func82 rfl rfl rfl rfl rfl (by decide) fun g hro_ hwt_ => ?_; (try refine nz ?_)
  (refine zq ?_; refine AOps.box rfl rfl rfl rfl ?_; refine nz ?_; refine za ?_; refine zd ?_; refine zq ?_; refine nz ?_; refine za ?_; refine zd ?_; refine zo ?_; refine zq ?_; refine nz ?_; refine za ?_; refine zd ?_; refine AW.block ?_)
  (refine nz ?_; apply AW.loopR [2, 1] [0] (fun k : Nat => ([(3, litI (at'.take k).sum), (4, litI k)] : List (Nat × AV))) (fun k : Nat => ([] : List (Nat × Option Ob))) (fun k : Nat => k ≤ at'.length) (fun k : Nat => at'.length - k) (0); (conv => lhs; simp only [Nf.lpR, Nf.all, Nat.reduceBEq, reduceAdd, reduceSub]); (all_goals skip))
  · exact Nat.zero_le _
  · exact weak rfl (by (refine ⟨.eq rfl rfl, ?_⟩; (iterate 3 refine ⟨.eq rfl rfl, ?_⟩); exact trivial)) (by (refine ⟨.box _ rfl ?_, ?_⟩; (iterate 2 refine ⟨.eq rfl rfl, ?_⟩); (iterate 2 exact trivial))) rfl
  rintro k hk
  by_cases hlt : k < at'.length
  · have hs := sum_snoc at' hlt
    have h1 := hb k
    have h2 := hb (k + 1)
    (refine zo ?_; refine zq ?_; refine zm ?_; refine AOps.fieldAddrN 49 0 0 rfl rfl rfl rfl ?_; refine zb ?_; refine zn ?_; refine zs ?_; refine zd ?_; refine zc ?_; refine AW.skip ?_; refine thenD_n ?_; refine zo ?_; refine AW.block ?_; refine AW.region ?_; refine nz ?_; refine zm ?_; refine AOps.fieldAddrN 49 0 0 rfl rfl rfl rfl ?_; refine zb ?_; refine zm ?_; (focus ((with_reducible apply AOps.index_map); (iterate 7 exact rfl); rotate_left; omega)); refine zr ?_; refine zj ?_; refine za ?_; refine AOps.nil ?_; refine inBlockD_n ?_; refine thenD_n ?_; refine AW.region ?_; refine nz ?_; refine zm ?_; refine zj ?_; refine za ?_; refine zd ?_)
    exact ⟨k + 1, by omega, by omega, weak rfl (by (refine ⟨.intE (by first | with_reducible rfl | (first | rfl | (rw [hs]))), ?_⟩; refine ⟨.intE (by first | with_reducible rfl | (first | rfl | (rw [hs]))), ?_⟩; refine ⟨.intE (by first | with_reducible rfl | (first | rfl | (rw [hs]))), ?_⟩; refine ⟨.eq rfl rfl, ?_⟩; exact trivial)) (by (refine ⟨.box _ rfl ?_, ?_⟩; refine ⟨.pvE (by first | with_reducible rfl | (first | rfl | (rw [hs]))), ?_⟩; refine ⟨.intE (by first | with_reducible rfl | (first | rfl | (rw [hs]))), ?_⟩; (iterate 2 exact trivial))) rfl⟩
  · rw [take_all (l := at') (by omega)]
    (refine zo ?_; refine zq ?_; refine zm ?_; refine AOps.fieldAddrN 49 0 0 rfl rfl rfl rfl ?_; refine zb ?_; refine zn ?_; refine zs ?_; refine zd ?_; refine zk ?_; refine AW.exit ?_; (iterate 2 refine thenD_exit ?_); refine inBlockD_exit ?_; refine thenD_n ?_; refine zq ?_; refine nz ?_; refine zm ?_; refine za ?_; refine zd ?_; refine AW.ret ?_)
    (apply ends_ret; (exact Res.one (.tmp rfl rfl)); (refine Le.litI ?_; (rfl)))
theorem sort11_fn (at' : List Int) (st x : Int) (h : SmA at') (hx : -9223372036854775808 ≤ x ∧ x ≤ 9223372036854775807) : Fn Try.prog 83 [scp at' st, litI x] (litI (sortF at' x 0)) := by
  have hle := h.1
  refine Fn.enter (n := 28) Try.func83 rfl rfl rfl rfl rfl (by decide) fun g hro_ hwt_ => ?_; (try refine nz ?_)
  (refine zq ?_; refine AOps.box rfl rfl rfl rfl ?_; refine nz ?_; refine za ?_; refine zd ?_; refine zo ?_; refine zq ?_; refine nz ?_; refine za ?_; refine zd ?_; refine AW.block ?_)
  (refine nz ?_; apply AW.loopR [2] [0] (fun s : Nat × Int => ([(5, litI s.1), (1, litI s.2)] : List (Nat × AV))) (fun s : Nat × Int => ([] : List (Nat × Option Ob))) (fun s : Nat × Int => s.1 ≤ at'.length ∧ -9223372036854775808 ≤ s.2 ∧ s.2 ≤ 9223372036854775807 ∧ sortF at' x 0 = sortF (at'.drop s.1) s.2 s.1) (fun s : Nat × Int => at'.length - s.1) ((0, x)); (conv => lhs; simp only [Nf.lpR, Nf.all, Nat.reduceBEq, reduceAdd, reduceSub]); (all_goals skip))
  · exact ⟨Nat.zero_le _, hx.1, hx.2, rfl⟩
  · exact weak rfl (by (refine ⟨.eq rfl rfl, ?_⟩; (iterate 2 refine ⟨.eq rfl rfl, ?_⟩); exact trivial)) (by (refine ⟨.box _ rfl ?_, ?_⟩; (iterate 2 refine ⟨.eq rfl rfl, ?_⟩); (iterate 2 exact trivial))) rfl
  rintro ⟨j, y⟩ ⟨hj, h1, h2, he⟩
  simp only at hj h1 h2 he ⊢
  by_cases hlt : j < at'.length
  · have hz := h.2 _ (List.getElem_mem hlt)
    rw [sortF_drop hlt] at he
    by_cases hc : y < at'[j]
    · rw [if_pos hc] at he
      (refine zo ?_; refine zq ?_; refine zm ?_; refine AOps.fieldAddrN 49 0 0 rfl rfl rfl rfl ?_; refine zb ?_; refine zn ?_; refine zs ?_; refine zd ?_; refine zc ?_; refine AW.skip ?_; refine thenD_n ?_; refine zo ?_; refine AW.block ?_; refine zo ?_; refine zq ?_; refine nz ?_; refine zm ?_; refine AOps.fieldAddrN 49 0 0 rfl rfl rfl rfl ?_; refine zb ?_; refine zm ?_; (focus ((with_reducible apply AOps.index_map); (iterate 7 exact rfl); rotate_left; omega)); refine zr ?_; refine zs ?_; refine zd ?_; refine zc ?_; refine zq ?_; refine nz ?_; refine zm ?_; refine za ?_; refine zd ?_; refine AW.ret ?_; refine thenD_ret ?_; refine inBlockD_ret ?_; (iterate 2 refine thenD_ret ?_); refine inBlockD_ret ?_; refine thenD_ret ?_)
      (apply ends_ret; (exact Res.one (.tmp rfl rfl)); (refine Le.litI ?_; (exact he.symm)))
    · rw [if_neg hc] at he
      (refine zo ?_; refine zq ?_; refine zm ?_; refine AOps.fieldAddrN 49 0 0 rfl rfl rfl rfl ?_; refine zb ?_; refine zn ?_; refine zs ?_; refine zd ?_; refine zc ?_; refine AW.skip ?_; refine thenD_n ?_; refine zo ?_; refine AW.block ?_; refine zo ?_; refine zq ?_; refine nz ?_; refine zm ?_; refine AOps.fieldAddrN 49 0 0 rfl rfl rfl rfl ?_; refine zb ?_; refine zm ?_; (focus ((with_reducible apply AOps.index_map); (iterate 7 exact rfl); rotate_left; omega)); refine zr ?_; refine zs ?_; refine zd ?_; refine zk ?_; refine AW.skip ?_; refine thenD_n ?_; refine AW.region ?_; refine nz ?_; refine zm ?_; refine AOps.fieldAddrN 49 0 0 rfl rfl rfl rfl ?_; refine zb ?_; refine zm ?_; (focus ((with_reducible apply AOps.index_map); (iterate 7 exact rfl); rotate_left; omega)); refine zr ?_; refine AOps.sub rfl rfl rfl rfl rfl (by omega) ?_; refine za ?_; refine AOps.nil ?_; refine inBlockD_n ?_; refine thenD_n ?_; refine AW.region ?_; refine nz ?_; refine zm ?_; refine zj ?_; refine za ?_; refine zd ?_)
      exact ⟨(j + 1, y - at'[j]), ⟨by show j + 1 ≤ _; omega, by show _ ≤ y - _; omega, by show y - _ ≤ _; omega, he⟩, by show at'.length - (j + 1) < at'.length - j; omega, weak rfl (by (refine ⟨.eq rfl rfl, ?_⟩; (iterate 2 refine ⟨.eq rfl rfl, ?_⟩); exact trivial)) (by (refine ⟨.box _ rfl ?_, ?_⟩; (iterate 2 refine ⟨.eq rfl rfl, ?_⟩); (iterate 2 exact trivial))) rfl⟩
  · rw [List.drop_eq_nil_of_le (by omega)] at he
    (refine zo ?_; refine zq ?_; refine zm ?_; refine AOps.fieldAddrN 49 0 0 rfl rfl rfl rfl ?_; refine zb ?_; refine zn ?_; refine zs ?_; refine zd ?_; refine zk ?_; refine AW.exit ?_; (iterate 2 refine thenD_exit ?_); refine inBlockD_exit ?_; refine thenD_n ?_; refine zq ?_; refine nz ?_; refine za ?_; refine zd ?_; refine AW.ret ?_)
    (apply ends_ret; (exact Res.one (.tmp rfl rfl)); (refine Le.litI ?_; (exact he.symm)))
end Go.Ab
