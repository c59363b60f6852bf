/- Chapter 20: what a reason says; the levels' plain part. -/
import Derived.Test.YthahkdmlcgfpcaaAcL2
import Derived.Test.YthahkdmlcgfpcaaAbMap2
set_option linter.unusedSimpArgs false
set_option linter.unusedVariables false
namespace Go.Ab
open Go Go.Proofs

theorem openFrom_all (tr : List Int) : ∀ (c out r : List Int), openFrom tr c out = some r → (∀ y ∈ out, y ∈ r) ∧ ∀ y ∈ c, y ∉ tr ∧ ((-y) ∈ tr ∨ y ∈ r) := by
  intro c
  induction c with
  | nil => intro out r h; simp only [openFrom, Option.some.injEq] at h; subst h; exact ⟨fun y hy => hy, by simp⟩
  | cons x c ih =>
    intro out r h
    unfold openFrom at h
    split at h
    · cases h
    · rename_i hx
      obtain ⟨h1, h2⟩ := ih _ _ h
      refine ⟨fun y hy => ?_, fun y hy => ?_⟩
      · refine h1 y ?_
        split
        · simp [hy]
        · exact hy
      · rcases List.mem_cons.1 hy with rfl | hy
        · refine ⟨hx, ?_⟩
          by_cases hn : (-y) ∈ tr
          · exact .inl hn
          · refine .inr (h1 y ?_)
            by_cases ho : y ∈ out
            · rw [if_neg (by simp [ho])]; exact ho
            · rw [if_pos ⟨hn, ho⟩]; simp
        · exact h2 y hy
theorem statusM_unit {c tr : List Int} (h0 : ∀ x ∈ c, x ≠ 0) {x : Int} (h : (statusM c tr).1 = 2) (hx : (statusM c tr).2 = x) : openFrom tr c [] = some [x] := by
  rw [statusM_open c tr h0] at h hx
  cases ho : openFrom tr c [] with
  | none => rw [ho] at h; simp [stOf] at h
  | some r =>
    rw [ho] at h hx
    match r, h, hx with
    | [], h, _ => simp [stOf] at h
    | [y], _, hx => simp [stOf] at hx; rw [hx]
    | _ :: _ :: _, h, _ => simp [stOf] at h
/-- each reason's clause holds its literal; the others' negatives are on the trail before it. -/
def RsI (cl : List (List Int)) (t : Tr) : Prop := ∀ k, k < t.1.length → 0 ≤ t.2.1.getD k 0 →
  t.1.getD k 0 ∈ cl.getD (t.2.1.getD k 0).toNat [] ∧ ∀ y ∈ cl.getD (t.2.1.getD k 0).toNat [], y ≠ t.1.getD k 0 → (-y) ∈ t.1.take k
theorem getD_app {α : Type} {l m : List α} {k : Nat} {d : α} (h : k < l.length) : (l ++ m).getD k d = l.getD k d := by
  simp [List.getD_eq_getElem?_getD, List.getElem?_append_left h]
theorem getD_end {α : Type} {l : List α} {x d : α} : (l ++ [x]).getD l.length d = x := by
  simp [List.getD_eq_getElem?_getD]
theorem take_app {α : Type} {l m : List α} {k : Nat} (h : k ≤ l.length) : (l ++ m).take k = l.take k := by
  rw [List.take_append_of_le_length h]
theorem RsI.push {cl : List (List Int)} {t : Tr} (h : RsI cl t) (he : Even t) {x r : Int}
    (hn : 0 ≤ r → x ∈ cl.getD r.toNat [] ∧ ∀ y ∈ cl.getD r.toNat [], y ≠ x → (-y) ∈ t.1) : RsI cl (t.1 ++ [x], t.2.1 ++ [r], t.2.2) := by
  intro k hk hr
  have he' : t.2.1.length = t.1.length := he
  simp only [List.length_append, List.length_singleton] at hk
  simp only at hr ⊢
  by_cases hk2 : k < t.1.length
  · rw [getD_app (by omega)] at hr
    rw [getD_app hk2, getD_app (by omega), take_app (by omega)]
    exact h k hk2 hr
  · have hk3 : k = t.1.length := by omega
    subst hk3
    have e1 : (t.2.1 ++ [r]).getD t.1.length 0 = r := by rw [← he']; exact getD_end
    rw [e1] at hr ⊢
    rw [getD_end, take_app (Nat.le_refl _), List.take_length]
    exact hn hr
theorem RsI.add {cl : List (List Int)} {t : Tr} (h : RsI cl t) (he : Even t) (x : Int) : RsI cl (addA t x) := by
  unfold addA
  split
  · exact h
  · exact h.push he (fun h => by omega)
theorem rsi_start (cl : List (List Int)) (assume : List Int) : RsI cl (startM assume) := by
  have : ∀ (l : List Int) (t : Tr), RsI cl t → Even t → RsI cl (l.foldl addA t) := by
    intro l
    induction l with
    | nil => intro t h _; exact h
    | cons x l ih => intro t h he; exact ih _ (h.add he x) (even_add he x)
  exact this assume _ (fun k hk => by simp at hk) rfl
theorem rsi_step {cl : List (List Int)} (h0 : ∀ c ∈ cl, ∀ x ∈ c, x ≠ 0) {t : Tr} (h : RsI cl t) (he : Even t) : RsI cl (stepM cl t).1 := by
  have key : ∀ (l : List (List Int)) (i : Nat), (∀ j, j < l.length → cl.getD (i + j) [] = l.getD j []) → (∀ c ∈ l, ∀ x ∈ c, x ≠ 0) → RsI cl (stepFrom t i l).1 := by
    intro l
    induction l with
    | nil => intro i _ _; exact h
    | cons c l ih =>
      intro i hi hl
      unfold stepFrom
      split
      · exact h
      · split
        · rename_i h2
          have hc := statusM_unit (hl c (by simp)) h2 rfl
          obtain ⟨_, h3⟩ := openFrom_all _ _ _ _ hc
          have h4 := openFrom_mem _ _ _ _ hc (by simp)
          have hg : cl.getD i [] = c := by have := hi 0 (by simp); simpa using this
          refine h.push he fun _ => ?_
          rw [Int.toNat_natCast, hg]
          refine ⟨?_, fun y hy hne => ?_⟩
          · have := (h4 _ (List.mem_singleton.2 rfl)).1
            simpa using this
          · rcases (h3 y hy).2 with h5 | h5
            · exact h5
            · simp at h5; exact absurd h5 hne
        · have := ih (i + 1) (fun j hj => by have := hi (j + 1) (by simp; omega); rw [show i + 1 + j = i + (j + 1) by omega, this]; simp) (fun c hc => hl c (by simp [hc]))
          exact this
  exact key cl 0 (fun j _ => by simp) h0
theorem rsi_run {vars : Int} {cl : List (List Int)} {assume : List Int} (h0 : ∀ c ∈ cl, ∀ x ∈ c, x ≠ 0) : RsI cl (runM vars cl assume) := by
  have : ∀ (n : Nat) (t : Tr), RsI cl t → Even t → RsI cl (runLoop cl n t) := by
    intro n
    induction n with
    | zero => intro t h _; exact h
    | succ n ih => intro t h he; unfold runLoop; split; exact ih _ (rsi_step h0 h he) (even_step he cl); exact rsi_step h0 h he
  exact this _ _ (rsi_start cl assume) (even_start assume)
/-- the run's end keeps its variables apart. -/
theorem dist_step {vars : Int} {cl : List (List Int)} (hcl : ∀ c ∈ cl, withinM vars c = true) {t : Tr} (h : Dist vars t.1) : Dist vars (stepM cl t).1.1 := by
  have key : ∀ (l : List (List Int)) (i : Int), (∀ c ∈ l, withinM vars c = true) → Dist vars (stepFrom t i l).1.1 := by
    intro l
    induction l with
    | nil => intro i _; exact h
    | cons c l ih =>
      intro i hl
      unfold stepFrom
      split
      · exact h
      · split
        · rename_i h2
          have hw := withinM_spec (hl c (by simp))
          have hc := statusM_unit (fun x hx => (hw x hx).1) h2 rfl
          have h4 := openFrom_mem _ _ _ _ hc (by simp) _ (List.mem_singleton.2 rfl)
          exact h.add (hw _ (by simpa using h4.1)) h4.2.1 h4.2.2
        · exact ih (i + 1) (fun c hc => hl c (by simp [hc]))
  exact key cl 0 hcl
theorem dist_run {vars : Int} {cl : List (List Int)} {assume : List Int} (hcl : ∀ c ∈ cl, withinM vars c = true) (h : withinM vars assume = true) (hc : contraM assume = false) : Dist vars (runM vars cl assume).1 := by
  have : ∀ (n : Nat) (t : Tr), Dist vars t.1 → Dist vars (runLoop cl n t).1 := by
    intro n
    induction n with
    | zero => intro t h; exact h
    | succ n ih => intro t h; unfold runLoop; split; exact ih _ (dist_step hcl h); exact dist_step hcl h
  exact this _ _ (startM_dist h hc)

/-! the assumptions behind a literal -/
theorem findM_lt {l : List Int} {x : Int} (h : x ∈ l) : 0 ≤ findM l x ∧ findM l x < l.length := by
  have := List.idxOf_lt_length_of_mem h
  unfold findM; rw [if_pos h]; omega
theorem findM_neg {l : List Int} {x : Int} (h : x ∉ l) : findM l x < 0 := by unfold findM; rw [if_neg h]; omega
theorem onF_fuel (cl : List (List Int)) (t : Tr) : ∀ (n m i : Nat), i < n → i < m → onF cl t n i = onF cl t m i := by
  intro n
  induction n with
  | zero => intro m i h; omega
  | succ n ih =>
    intro m i h1 h2
    cases m with
    | zero => omega
    | succ m =>
      unfold onF
      split
      · rfl
      · congr 1
        funext out x
        split
        · rfl
        · rename_i hx
          have hb := findM_bounds (t.1.take i) (0 - x)
          have hl := List.length_take_le i t.1
          have hj : (findM (t.1.take i) (0 - x)).toNat < i := by
            have : ¬ findM (t.1.take i) (0 - x) < 0 := fun h => hx (.inr h)
            omega
          rw [ih m _ (by omega) (by omega)]
theorem mem_foldU {z : Int} : ∀ {l out : List Int}, z ∈ l.foldl addU out ↔ z ∈ out ∨ z ∈ l := by
  intro l
  induction l with
  | nil => intro out; simp
  | cons y l ih =>
    intro out
    rw [List.foldl_cons, ih]
    unfold addU
    split
    · rename_i hy
      constructor
      · rintro (h | h); exact .inl h; exact .inr (by simp [h])
      · rintro (h | h)
        · exact .inl h
        · rcases List.mem_cons.1 h with rfl | h
          · exact .inl hy
          · exact .inr h
    · simp only [List.mem_append, List.mem_cons, List.not_mem_nil, or_false, or_assoc]
theorem nodup_same {A B : List Int} (ha : A.Nodup) (hb : B.Nodup) (h : ∀ z, z ∈ A ↔ z ∈ B) : A.length = B.length :=
  Nat.le_antisymm (nodup_len ha fun z hz => (h z).1 hz) (nodup_len hb fun z hz => (h z).2 hz)
theorem insU_nodup {xs : List Int} (h : xs.Nodup) (m : Int) : (insU xs m).Nodup := by
  unfold insU; split
  · exact h
  · rename_i hm; rw [List.nodup_append]; exact ⟨h, by simp, by intro a ha b hb e; simp at hb; subst hb; subst e; exact hm ha⟩
theorem mem_insU {xs : List Int} {m z : Int} : z ∈ insU xs m ↔ z ∈ xs ∨ z = m := by
  unfold insU; split
  · rename_i hm; constructor; exact .inl; rintro (h | rfl); exact h; exact hm
  · simp
theorem nodup_lt : ∀ (n : Nat) {l : List Nat}, l.Nodup → (∀ x ∈ l, x < n) → l.length ≤ n := by
  intro n
  induction n with
  | zero => intro l _ h; cases l with | nil => simp | cons x l => have := h x (by simp); omega
  | succ n ih =>
    intro l hn h
    have h1 := ih (l := l.erase n) (hn.erase _) (fun x hx => by
      have h2 := h x (List.mem_of_mem_erase hx)
      have h3 : x ≠ n := fun e => by subst e; exact (List.Nodup.not_mem_erase hn) hx
      omega)
    have := List.length_erase (a := n) (l := l)
    split at this <;> omega

/-! the map of maps -/
def onL (xs : List Int) (ss : List (List Int)) : List (Int × AV) := (xs.zip ss).map fun p => (p.1, .pv (.mp (setP p.2)))
theorem lookI_onL : ∀ (xs : List Int) (ss : List (List Int)) (m : Int), ss.length ≤ xs.length →
    lookI (onL xs ss) m = if m ∈ xs.take ss.length then some (.pv (.mp (setP (ss.getD (findM (xs.take ss.length) m).toNat [])))) else none
  | [], ss, m, h => by have : ss = [] := by cases ss with | nil => rfl | cons => simp at h
                       subst this; rfl
  | x :: xs, [], m, _ => rfl
  | x :: xs, s :: ss, m, h => by
    have ih := lookI_onL xs ss m (by simpa using h)
    show (if m = x then some (AV.pv (.mp (setP s))) else lookI (onL xs ss) m) = _
    simp only [List.length_cons, List.take_succ_cons, List.mem_cons]
    by_cases hm : m = x
    · subst hm
      rw [if_pos rfl, if_pos (.inl rfl)]
      simp [findM]
    · rw [if_neg hm, ih]
      by_cases h2 : m ∈ xs.take ss.length
      · rw [if_pos h2, if_pos (.inr h2)]
        have hfi : findM (x :: xs.take ss.length) m = findM (xs.take ss.length) m + 1 := by
          unfold findM
          have hb : (x == m) = false := by simp [Ne.symm hm]
          rw [if_pos h2, if_pos (by simp [h2]), List.idxOf_cons, hb]
          simp
        rw [hfi]
        have := (findM_lt h2).1
        rw [show (findM (xs.take ss.length) m + 1).toNat = (findM (xs.take ss.length) m).toNat + 1 by omega]
        simp
      · rw [if_neg h2, if_neg (by simp [hm, h2])]
theorem lookI_app {l l' : List (Int × AV)} {m : Int} {v : AV} (h : lookI l m = some v) : lookI (l ++ l') m = some v := by
  induction l with
  | nil => simp [lookI] at h
  | cons p l ih =>
    obtain ⟨k, u⟩ := p
    unfold lookI at h
    show (if m = k then some u else lookI (l ++ l') m) = _
    split at h
    · rename_i hk; rw [if_pos hk]; exact h
    · rename_i hk; rw [if_neg hk]; exact ih h
theorem zip_snoc : ∀ (xs : List Int) (ss : List (List Int)) (s : List Int) (hk : ss.length < xs.length), xs.zip (ss ++ [s]) = xs.zip ss ++ [(xs[ss.length], s)]
  | [], _, _, hk => by simp at hk
  | x :: xs, [], s, _ => by simp
  | x :: xs, s' :: ss, s, hk => by
    have := zip_snoc xs ss s (by simpa using hk)
    simp [this]
theorem onL_snoc {xs : List Int} {ss : List (List Int)} {k : Nat} (hk : k < xs.length) (hs : ss.length = k) (s : List Int) : onL xs (ss ++ [s]) = onL xs ss ++ [(xs[k], .pv (.mp (setP s)))] := by
  subst hs
  unfold onL
  rw [zip_snoc xs ss s hk, List.map_append]; rfl
theorem onL_pv {xs : List Int} {ss : List (List Int)} : ∀ p ∈ mpI (onL xs ss), ∃ q, p.2 = .pv q := by
  intro p hp
  unfold mpI onL at hp
  simp only [List.map_map, List.mem_map] at hp
  obtain ⟨x, _, rfl⟩ := hp
  exact ⟨_, rfl⟩
section
variable {δ δ' : DS} {i j : Nat}
theorem WO.on0 {xs : List Int} {ss : List (List Int)} (h : δ.ob i = some (.mp (mpI (onL xs ss)))) : WO δ δ' i (.mp (mpI (onL xs ss))) :=
  .mp h fun p hp => by obtain ⟨q, hq⟩ := onL_pv p hp; rw [hq]; rfl
theorem WO.on1 {xs : List Int} {ss : List (List Int)} {m : Int} (h : δ.ob i = some (.mp (mpI (onL xs ss ++ [(m, .mapr j)])))) (hj : δ'.lbB j = true) : WO δ δ' i (.mp (mpI (onL xs ss ++ [(m, .mapr j)]))) :=
  .mp h fun p hp => by
    rw [mpI_append] at hp
    rcases List.mem_append.1 hp with hp | hp
    · obtain ⟨q, hq⟩ := onL_pv p hp; rw [hq]; rfl
    · simp [mpI] at hp; subst hp; exact hj
theorem WO.onF {xs : List Int} {ss : List (List Int)} {k : Nat} {s : List Int} {hk : k < xs.length} (hs : ss.length = k) (h : δ.ob i = some (.mp (mpI (onL xs ss ++ [(xs[k], .mapr j)])))) (h3 : δ.ob j = some (.mp (mpI (setI s)))) (hd : δ'.ob j = none) :
    WO δ δ' i (.mp (mpI (onL xs (ss ++ [s])))) := by
  rw [onL_snoc hk hs]
  refine .mpw h (by simp [mpI]) fun n p p' h1 h2 => ?_
  rw [mpI_append] at h1 h2
  have hl : (mpI (onL xs ss)).length = (mpI (onL xs ss)).length := rfl
  by_cases hn : n < (mpI (onL xs ss)).length
  · rw [List.getElem?_append_left hn] at h1 h2
    rw [h1] at h2; cases h2
    obtain ⟨q, hq⟩ := onL_pv p (List.mem_of_getElem? h1)
    exact ⟨rfl, by rw [hq]; exact .eq rfl rfl, by rw [hq]; rfl⟩
  · rw [List.getElem?_append_right (by omega)] at h1 h2
    have hz : n - (mpI (onL xs ss)).length = 0 := by
      have := (List.getElem?_eq_some_iff.1 h1).1
      simp [mpI] at this ⊢; omega
    rw [hz] at h1 h2
    simp [mpI] at h1 h2
    subst h1; subst h2
    exact ⟨rfl, .fset h3 hd, rfl⟩
end
end Go.Ab
