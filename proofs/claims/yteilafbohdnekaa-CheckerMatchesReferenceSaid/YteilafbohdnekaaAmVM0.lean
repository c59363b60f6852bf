/- Chapter 20: what a reason says; the levels' plain part. -/
import Derived.Test.YteilafbohdnekaaAmVL2
import Derived.Test.YteilafbohdnekaaAbL2
set_option linter.unusedSimpArgs false
set_option linter.unusedVariables false
namespace Go.Ab
open Go Go.Proofs
set_option maxRecDepth 20000
set_option maxHeartbeats 4000000

theorem openFrom_all (tr : List Int) : ∀ (c out r : List Int), openFrom tr c out = some r → (∀ y ∈ out, y ∈ r) ∧ ∀ y ∈ c, y ∉ tr ∧ ((-y) ∈ tr ∨ y ∈ r) := by
  intro c
  induction c with
  | nil => intro out r h; simp only [openFrom, Option.some.injEq] at h; subst h; exact ⟨fun y hy => hy, by simp⟩
  | cons x c ih =>
    intro out r h
    unfold openFrom at h
    split at h
    · cases h
    · rename_i hx
      obtain ⟨h1, h2⟩ := ih _ _ h
      refine ⟨fun y hy => ?_, fun y hy => ?_⟩
      · refine h1 y ?_
        split
        · simp [hy]
        · exact hy
      · rcases List.mem_cons.1 hy with rfl | hy
        · refine ⟨hx, ?_⟩
          by_cases hn : (-y) ∈ tr
          · exact .inl hn
          · refine .inr (h1 y ?_)
            by_cases ho : y ∈ out
            · rw [if_neg (by simp [ho])]; exact ho
            · rw [if_pos ⟨hn, ho⟩]; simp
        · exact h2 y hy
theorem statusM_unit {c tr : List Int} (h0 : ∀ x ∈ c, x ≠ 0) {x : Int} (h : (statusM c tr).1 = 2) (hx : (statusM c tr).2 = x) : openFrom tr c [] = some [x] := by
  rw [statusM_open c tr h0] at h hx
  cases ho : openFrom tr c [] with
  | none => rw [ho] at h; simp [stOf] at h
  | some r =>
    rw [ho] at h hx
    match r, h, hx with
    | [], h, _ => simp [stOf] at h
    | [y], _, hx => simp [stOf] at hx; rw [hx]
    | _ :: _ :: _, h, _ => simp [stOf] at h
/-- each reason's clause holds its literal; the others' negatives are on the trail before it. -/
def RsI (cl : List (List Int)) (t : Tr) : Prop := ∀ k, k < t.1.length → 0 ≤ t.2.1.getD k 0 →
  t.1.getD k 0 ∈ cl.getD (t.2.1.getD k 0).toNat [] ∧ ∀ y ∈ cl.getD (t.2.1.getD k 0).toNat [], y ≠ t.1.getD k 0 → (-y) ∈ t.1.take k
theorem getD_app {α : Type} {l m : List α} {k : Nat} {d : α} (h : k < l.length) : (l ++ m).getD k d = l.getD k d := by
  simp [List.getD_eq_getElem?_getD, List.getElem?_append_left h]
theorem getD_end {α : Type} {l : List α} {x d : α} : (l ++ [x]).getD l.length d = x := by
  simp [List.getD_eq_getElem?_getD]
theorem take_app {α : Type} {l m : List α} {k : Nat} (h : k ≤ l.length) : (l ++ m).take k = l.take k := by
  rw [List.take_append_of_le_length h]
theorem RsI.push {cl : List (List Int)} {t : Tr} (h : RsI cl t) (he : Even t) {x r : Int}
    (hn : 0 ≤ r → x ∈ cl.getD r.toNat [] ∧ ∀ y ∈ cl.getD r.toNat [], y ≠ x → (-y) ∈ t.1) : RsI cl (t.1 ++ [x], t.2.1 ++ [r], t.2.2) := by
  intro k hk hr
  have he' : t.2.1.length = t.1.length := he
  simp only [List.length_append, List.length_singleton] at hk
  simp only at hr ⊢
  by_cases hk2 : k < t.1.length
  · rw [getD_app (by omega)] at hr
    rw [getD_app hk2, getD_app (by omega), take_app (by omega)]
    exact h k hk2 hr
  · have hk3 : k = t.1.length := by omega
    subst hk3
    have e1 : (t.2.1 ++ [r]).getD t.1.length 0 = r := by rw [← he']; exact getD_end
    rw [e1] at hr ⊢
    rw [getD_end, take_app (Nat.le_refl _), List.take_length]
    exact hn hr
theorem RsI.add {cl : List (List Int)} {t : Tr} (h : RsI cl t) (he : Even t) (x : Int) : RsI cl (addA t x) := by
  unfold addA
  split
  · exact h
  · exact h.push he (fun h => by omega)
end Go.Ab
