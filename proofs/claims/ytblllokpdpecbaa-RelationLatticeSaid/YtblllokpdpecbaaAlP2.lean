/- Chapter 06's laws in plain terms. -/
import Derived.Test.YtblllokpdpecbaaAlP1
set_option linter.unusedSimpArgs false
set_option linter.unusedVariables false
namespace Go.Ab
open Go Go.Proofs
set_option linter.unusedSectionVars false
theorem nodup_len : ∀ {a b : List Int}, a.Nodup → (∀ t ∈ a, t ∈ b) → a.length ≤ b.length
  | [], b, _, _ => Nat.zero_le _
  | x :: a, b, ha, h => by
    have ha' := List.nodup_cons.1 ha
    have h1 := nodup_len (b := b.erase x) ha'.2 fun t ht => (List.mem_erase_of_ne (by rintro rfl; exact ha'.1 ht)).2 (h t (by simp [ht]))
    rw [List.length_erase_of_mem (h x (by simp))] at h1
    have h2 : 0 < b.length := List.length_pos_of_mem (h x (by simp))
    show a.length + 1 ≤ _
    omega
theorem Inc.nodup {a : List Int} (h : Inc a) : a.Nodup := h.imp fun h => by omega
theorem filter_split (p : Int → Bool) : ∀ l : List Int, (l.filter p).length + (l.filter fun t => !p t).length = l.length
  | [] => rfl
  | x :: l => by
    have := filter_split p l
    cases h : p x <;> simp [h] <;> omega
theorem union_len {m : Int} {a b : List Int} (ha : Rl m a) (hb : Rl m b) : ((canon (a ++ b)).length : Int) + ((interL a b).length : Int) = (a.length : Int) + (b.length : Int) := by
  have h1 := filter_split (fun t => decide (t ∈ b)) a
  have h2 : (interL a b).length = (a.filter fun t => decide (t ∈ b)).length := rfl
  have hd : (a.filter fun t => !decide (t ∈ b)) = diffL a b := by unfold diffL; congr 1; funext t; simp
  rw [hd, ← h2] at h1
  have hn : (b ++ diffL a b).Nodup := by
    rw [List.nodup_append]
    exact ⟨hb.inc.nodup, Inc.nodup (ha.inc.filter _), fun x hx y hy e => (mem_diff.1 hy).2 (e ▸ hx)⟩
  have h3 := nodup_len (canon_inc (a ++ b)).nodup (b := b ++ diffL a b) fun t ht => by
    rw [List.mem_append, mem_diff]
    rcases mem_union.1 ht with h | h
    · by_cases hb' : t ∈ b
      · exact .inl hb'
      · exact .inr ⟨h, hb'⟩
    · exact .inl h
  have h4 := nodup_len hn (b := canon (a ++ b)) fun t ht => by
    rw [mem_union]
    rcases List.mem_append.1 ht with h | h
    · exact .inr h
    · exact .inl (mem_diff.1 h).1
  rw [List.length_append] at h3 h4
  omega
def fullN (m : Nat) : List Int := (List.range m).map fun (i : Nat) => (i : Int)
theorem mem_fullN {m : Nat} {t : Int} : t ∈ fullN m ↔ 0 ≤ t ∧ t < m := by
  unfold fullN
  rw [List.mem_map]
  constructor
  · rintro ⟨x, hx, rfl⟩; rw [List.mem_range] at hx; omega
  · rintro ⟨h0, h1⟩; exact ⟨t.toNat, List.mem_range.2 (by omega), by omega⟩
theorem Rl.full (m : Nat) : Rl (m : Int) (fullN m) := ⟨by
  unfold fullN
  show List.Pairwise _ _
  rw [List.pairwise_map]
  exact List.pairwise_lt_range.imp fun h => by omega, fun t ht => (mem_fullN.1 ht).1, fun t ht => (mem_fullN.1 ht).2⟩
theorem Rl.inter {m : Int} {a : List Int} (b : List Int) (h : Rl m a) : Rl m (interL a b) := h.filter _
theorem Rl.diff {m : Int} {a : List Int} (b : List Int) (h : Rl m a) : Rl m (diffL a b) := h.filter _
section lattice
variable {m : Int} {a b c : List Int} (ha : Rl m a) (hb : Rl m b) (hc : Rl m c)
include ha hb
theorem un_comm : canon (a ++ b) = canon (b ++ a) := (ha.union hb).ext (hb.union ha) fun t => by rw [mem_union, mem_union, or_comm]
theorem in_comm : interL a b = interL b a := (ha.inter b).ext (hb.inter a) fun t => by rw [mem_inter, mem_inter, and_comm]
include hc
theorem un_assoc : canon (canon (a ++ b) ++ c) = canon (a ++ canon (b ++ c)) := ((ha.union hb).union hc).ext (ha.union (hb.union hc)) fun t => by simp only [mem_union, or_assoc]
theorem in_assoc : interL (interL a b) c = interL a (interL b c) := ((ha.inter b).inter c).ext (ha.inter _) fun t => by simp only [mem_inter, and_assoc]
theorem in_un : interL a (canon (b ++ c)) = canon (interL a b ++ interL a c) := (ha.inter _).ext ((ha.inter b).union (ha.inter c)) fun t => by simp only [mem_inter, mem_union, and_or_left]
theorem un_in : canon (a ++ interL b c) = interL (canon (a ++ b)) (canon (a ++ c)) := (ha.union (hb.inter c)).ext ((ha.union hb).inter _) fun t => by simp only [mem_inter, mem_union, or_and_left]
omit hc
theorem un_abs : canon (a ++ interL a b) = a := (ha.union (ha.inter b)).ext ha fun t => by
  simp only [mem_inter, mem_union]
  exact ⟨fun h => h.elim id (fun h => h.1), .inl⟩
theorem in_abs : interL a (canon (a ++ b)) = a := (ha.inter _).ext ha fun t => by simp only [mem_inter, mem_union]; exact ⟨fun h => h.1, fun h => ⟨h, .inl h⟩⟩
theorem di_un {f : List Int} (hf : Rl m f) : diffL f (canon (a ++ b)) = interL (diffL f a) (diffL f b) := (hf.diff _).ext ((hf.diff a).inter _) fun t => by
  simp only [mem_diff, mem_inter, mem_union]
  by_cases h1 : t ∈ f <;> by_cases h2 : t ∈ a <;> by_cases h3 : t ∈ b <;> simp [h1, h2, h3]
theorem di_in {f : List Int} (hf : Rl m f) : diffL f (interL a b) = canon (diffL f a ++ diffL f b) := (hf.diff _).ext ((hf.diff a).union (hf.diff b)) fun t => by
  simp only [mem_diff, mem_inter, mem_union]
  by_cases h1 : t ∈ f <;> by_cases h2 : t ∈ a <;> by_cases h3 : t ∈ b <;> simp [h1, h2, h3]
theorem di_di : diffL a b = diffL a (interL a b) := (ha.diff _).ext (ha.diff _) fun t => by
  simp only [mem_diff, mem_inter]
  by_cases h2 : t ∈ a <;> by_cases h3 : t ∈ b <;> simp [h2, h3]
theorem sub_eq : subL a b = decide (interL a b = a) := by
  rw [Bool.eq_iff_iff, sub_iff, decide_eq_true_eq]
  constructor
  · intro h
    exact (ha.inter b).ext ha fun t => by rw [mem_inter]; exact ⟨fun h => h.1, fun h1 => ⟨h1, h t h1⟩⟩
  · intro h t ht
    rw [← h, mem_inter] at ht
    exact ht.2
end lattice
/-! joins -/
section joins
variable {n : Nat} (hn : 1 ≤ n)
include hn
end joins
end Go.Ab
