/- Chapter 19: the simplification, in plain terms. -/
import Derived.Test.YtbkjdmjiecncgaaDoorAnA2
import Derived.Lib.ItoaNum
set_option linter.unusedSimpArgs false
set_option linter.unusedVariables false
namespace Go.Ab
open Go Go.Proofs
set_option maxRecDepth 20000
set_option maxHeartbeats 4000000
/-! ### numerals and words -/
/-- a number's value, read from its digits. -/
def valD (l : List UInt8) : Nat := l.foldl (fun n d => 10 * n + (d.toNat - 48)) 0
theorem dig_nat {k : Nat} (h : k < 10) : (UInt8.ofNat (48 + k)).toNat = 48 + k := by
  rw [UInt8.toNat_ofNat']; omega
theorem valD_dec (u : Nat) : valD (Lib.decDigits u) = u := by
  induction u using Nat.strongRecOn with
  | _ u ih =>
    rw [Lib.decDigits]
    split
    · rename_i h
      simp only [valD, List.foldl_cons, List.foldl_nil, dig_nat h]; omega
    · rename_i h
      have := ih (u / 10) (by omega)
      unfold valD at this ⊢
      rw [List.foldl_append, this]
      simp only [List.foldl_cons, List.foldl_nil, dig_nat (Nat.mod_lt u (by omega : 10 > 0))]; omega
theorem dec_range (u : Nat) : ∀ d ∈ Lib.decDigits u, 48 ≤ d.toNat ∧ d.toNat ≤ 57 := by
  induction u using Nat.strongRecOn with
  | _ u ih =>
    rw [Lib.decDigits]
    split
    · rename_i h
      intro d hd
      simp only [List.mem_cons, List.not_mem_nil, or_false] at hd
      subst hd
      rw [dig_nat h]; omega
    · rename_i h
      intro d hd
      rcases List.mem_append.1 hd with hd | hd
      · exact ih _ (by omega) d hd
      · simp only [List.mem_cons, List.not_mem_nil, or_false] at hd
        subst hd
        rw [dig_nat (Nat.mod_lt u (by omega : 10 > 0))]
        have := Nat.mod_lt u (by omega : 10 > 0)
        omega
theorem dec_ne (u : Nat) : Lib.decDigits u ≠ [] := by
  rw [Lib.decDigits]
  split <;> simp
theorem itoa_inj {m n : Int} (h : Lib.itoa m = Lib.itoa n) : m = n := by
  unfold Lib.itoa at h
  have key : ∀ u v : Nat, 45 :: Lib.decDigits u ≠ Lib.decDigits v := fun u v e => by
    have := dec_range v 45 (by rw [← e]; simp)
    have e45 : (45 : UInt8).toNat = 45 := rfl
    omega
  by_cases h1 : m < 0
  · rw [if_pos h1] at h
    by_cases h2 : n < 0
    · rw [if_pos h2] at h
      have h3 := (List.cons.inj h).2
      have := congrArg valD h3
      rw [valD_dec, valD_dec] at this
      omega
    · rw [if_neg h2] at h
      exact absurd h (key _ _)
  · rw [if_neg h1] at h
    by_cases h2 : n < 0
    · rw [if_pos h2] at h
      exact absurd h.symm (key _ _)
    · rw [if_neg h2] at h
      have := congrArg valD h
      rw [valD_dec, valD_dec] at this
      omega
theorem itoa_word (n : Int) : Lib.itoa n ≠ [] ∧ ∀ d ∈ Lib.itoa n, d ≠ 32 := by
  have key : ∀ u, ∀ d ∈ Lib.decDigits u, d ≠ 32 := fun u d hd e => by
    have := dec_range u d hd
    rw [e] at this
    have e32 : (32 : UInt8).toNat = 32 := rfl
    omega
  unfold Lib.itoa
  split
  · refine ⟨by simp, fun d hd => ?_⟩
    rcases List.mem_cons.1 hd with h | h
    · rw [h]; decide
    · exact key _ d h
  · exact ⟨dec_ne _, key _⟩
/-- words joined by a byte. -/
def joinB (sep : UInt8) : List (List UInt8) → List UInt8
  | [] => []
  | [x] => x
  | x :: y :: r => x ++ sep :: joinB sep (y :: r)
theorem cut_at {sep : UInt8} : ∀ {a b u v : List UInt8}, (∀ d ∈ a, d ≠ sep) → (∀ d ∈ b, d ≠ sep) → a ++ sep :: u = b ++ sep :: v → a = b ∧ u = v
  | [], [], u, v, _, _, h => ⟨rfl, (List.cons.inj h).2⟩
  | [], y :: b, u, v, _, hb, h => absurd (List.cons.inj h).1.symm (hb y (by simp))
  | x :: a, [], u, v, ha, _, h => absurd (List.cons.inj h).1 (ha x (by simp))
  | x :: a, y :: b, u, v, ha, hb, h => by
    obtain ⟨h1, h2⟩ := List.cons.inj h
    obtain ⟨h3, h4⟩ := cut_at (fun d hd => ha d (by simp [hd])) (fun d hd => hb d (by simp [hd])) h2
    exact ⟨by rw [h1, h3], h4⟩
theorem no_cut {sep : UInt8} {a b u : List UInt8} (ha : ∀ d ∈ a, d ≠ sep) (h : a = b ++ sep :: u) : False := ha sep (by rw [h]; simp) rfl
theorem join_inj {sep : UInt8} : ∀ {a b : List (List UInt8)}, (∀ x ∈ a, x ≠ [] ∧ ∀ d ∈ x, d ≠ sep) → (∀ x ∈ b, x ≠ [] ∧ ∀ d ∈ x, d ≠ sep) → joinB sep a = joinB sep b → a = b
  | [], [], _, _, _ => rfl
  | [], [y], _, hb, h => absurd h.symm (hb y (by simp)).1
  | [], y :: z :: b, _, _, h => by simp [joinB] at h
  | [x], [], ha, _, h => absurd h (ha x (by simp)).1
  | x :: y :: a, [], _, _, h => by simp [joinB] at h
  | [x], [y], _, _, h => by simp only [joinB] at h; rw [h]
  | [x], y :: z :: b, ha, _, h => (no_cut (ha x (by simp)).2 h).elim
  | x :: y :: a, [z], _, hb, h => (no_cut (hb z (by simp)).2 h.symm).elim
  | x :: y :: a, x' :: y' :: b, ha, hb, h => by
    obtain ⟨h1, h2⟩ := cut_at (ha x (by simp)).2 (hb x' (by simp)).2 h
    rw [h1, join_inj (fun z hz => ha z (by simp [hz])) (fun z hz => hb z (by simp [hz])) h2]
/-- a clause's key. -/
noncomputable def keyL (c : List Int) : List UInt8 := joinB 32 ((sortL c).map Lib.itoa)
noncomputable def keyB (c : List Int) : ByteArray := ⟨(keyL c).toArray⟩
theorem key_mem {c d : List Int} (h : keyB c = keyB d) (x : Int) : x ∈ c ↔ x ∈ d := by
  have h1 : keyL c = keyL d := by
    have := congrArg (fun b : ByteArray => b.data.toList) h
    simpa [keyB] using this
  have h2 := join_inj (fun w hw => by obtain ⟨n, _, rfl⟩ := List.mem_map.1 hw; exact itoa_word n) (fun w hw => by obtain ⟨n, _, rfl⟩ := List.mem_map.1 hw; exact itoa_word n) h1
  have h3 : sortL c = sortL d := (List.map_inj_right fun m n h => itoa_inj h).1 h2
  rw [← sort_mem (zs := c), h3, sort_mem]
/-! ### the simplification -/
def dedS (acc : List Int) (l : Int) : List Int := if l ∈ acc then acc else acc ++ [l]
def dedM (c : List Int) : List Int := c.foldl dedS []
def oppM (c : List Int) : Bool := c.any fun l => decide (-l ∈ c)
open Classical in
noncomputable def simS (out : List (List Int)) (c : List Int) : List (List Int) := if oppM (dedM c) = true ∨ (out.any fun d => decide (keyB d = keyB (dedM c))) = true then out else out ++ [dedM c]
noncomputable def simM (cl : List (List Int)) : List (List Int) := cl.foldl simS []
theorem ded_snoc {c : List Int} {k : Nat} (hk : k < c.length) : dedM (c.take (k + 1)) = dedS (dedM (c.take k)) c[k] := by
  unfold dedM
  rw [take_succ_get hk, List.foldl_append]; rfl
theorem sim_snoc {cl : List (List Int)} {k : Nat} (hk : k < cl.length) : simM (cl.take (k + 1)) = simS (simM (cl.take k)) cl[k] := by
  unfold simM
  rw [take_succ_get hk, List.foldl_append]; rfl
theorem dedF_mem (c : List Int) : ∀ (acc : List Int) (x : Int), x ∈ c.foldl dedS acc ↔ x ∈ acc ∨ x ∈ c := by
  induction c with
  | nil => intro acc x; simp
  | cons y c ih =>
    intro acc x
    rw [List.foldl_cons, ih, dedS]
    split
    · rename_i h
      constructor
      · rintro (h1 | h1)
        · exact .inl h1
        · exact .inr (by simp [h1])
      · rintro (h1 | h1)
        · exact .inl h1
        · rcases List.mem_cons.1 h1 with rfl | h1
          · exact .inl h
          · exact .inr h1
    · simp [or_assoc]
theorem ded_mem {c : List Int} {x : Int} : x ∈ dedM c ↔ x ∈ c := by unfold dedM; rw [dedF_mem]; simp
theorem dedF_nodup (c : List Int) : ∀ acc : List Int, acc.Nodup → (c.foldl dedS acc).Nodup := by
  induction c with
  | nil => intro acc h; exact h
  | cons y c ih =>
    intro acc h
    rw [List.foldl_cons]
    refine ih _ ?_
    unfold dedS
    split
    · exact h
    · rename_i hy
      rw [List.nodup_append]
      exact ⟨h, by simp, fun a ha b hb e => by simp at hb; subst hb; subst e; exact hy ha⟩
theorem ded_nodup (c : List Int) : (dedM c).Nodup := dedF_nodup c [] (by simp)
theorem ded_len (c : List Int) : (dedM c).length ≤ c.length := by
  have key : ∀ (c acc : List Int), (c.foldl dedS acc).length ≤ acc.length + c.length := by
    intro c
    induction c with
    | nil => intro acc; simp
    | cons y c ih =>
      intro acc
      rw [List.foldl_cons]
      have h1 := ih (dedS acc y)
      have h2 : (dedS acc y).length ≤ acc.length + 1 := by unfold dedS; split <;> simp
      simp only [List.length_cons]; omega
  have := key c []
  unfold dedM
  simpa using this
/-- what holds of the clauses kept. -/
structure SimOk (cl out : List (List Int)) : Prop where
  len : out.length ≤ cl.length
  nodup : ∀ d ∈ out, d.Nodup
  opp : ∀ d ∈ out, oppM d = false
  src : ∀ d ∈ out, ∃ c ∈ cl, ∀ x, x ∈ d ↔ x ∈ c
  keys : out.Pairwise fun a b => keyB a ≠ keyB b
  kept : ∀ c ∈ cl, oppM (dedM c) = true ∨ ∃ d ∈ out, ∀ x, x ∈ d ↔ x ∈ c
theorem sim_ok (cl : List (List Int)) : ∀ k, k ≤ cl.length → SimOk (cl.take k) (simM (cl.take k))
  | 0, _ => ⟨Nat.le_refl _, (by intro d h; cases h), (by intro d h; cases h), (by intro d h; cases h), List.Pairwise.nil, (by intro c h; simp at h)⟩
  | k + 1, hk => by
    have ih := sim_ok cl k (by omega)
    have hlt : k < cl.length := by omega
    rw [sim_snoc hlt, take_succ_get hlt]
    generalize simM (cl.take k) = out at ih ⊢
    generalize cl.take k = pre at ih ⊢
    generalize cl[k] = c
    unfold simS
    by_cases ho : oppM (dedM c) = true
    · rw [if_pos (.inl ho)]
      refine ⟨by have := ih.len; simp; omega, ih.nodup, ih.opp, fun d hd => ?_, ih.keys, fun e he => ?_⟩
      · obtain ⟨e, he, h⟩ := ih.src d hd
        exact ⟨e, by simp [he], h⟩
      · rcases List.mem_append.1 he with he | he
        · exact ih.kept e he
        · simp at he; subst he; exact .inl ho
    · by_cases ha : (out.any fun d => decide (keyB d = keyB (dedM c))) = true
      · rw [if_pos (.inr ha)]
        refine ⟨by have := ih.len; simp; omega, ih.nodup, ih.opp, fun d hd => ?_, ih.keys, fun e he => ?_⟩
        · obtain ⟨e, he, h⟩ := ih.src d hd
          exact ⟨e, by simp [he], h⟩
        · rcases List.mem_append.1 he with he | he
          · exact ih.kept e he
          · simp at he; subst he
            obtain ⟨d, hd, h⟩ := List.any_eq_true.1 ha
            exact .inr ⟨d, hd, fun x => by rw [key_mem (by simpa using h) x, ded_mem]⟩
      · rw [if_neg (by rintro (h | h); exact ho h; exact ha h)]
        have hne : ∀ d ∈ out, keyB d ≠ keyB (dedM c) := fun d hd e => ha (List.any_eq_true.2 ⟨d, hd, by simpa using e⟩)
        refine ⟨by have := ih.len; simp; omega, fun d hd => ?_, fun d hd => ?_, fun d hd => ?_, ?_, fun e he => ?_⟩
        · rcases List.mem_append.1 hd with hd | hd
          · exact ih.nodup d hd
          · simp at hd; subst hd; exact ded_nodup c
        · rcases List.mem_append.1 hd with hd | hd
          · exact ih.opp d hd
          · simp at hd; subst hd; simpa using ho
        · rcases List.mem_append.1 hd with hd | hd
          · obtain ⟨e, he, h⟩ := ih.src d hd
            exact ⟨e, by simp [he], h⟩
          · simp at hd; subst hd
            exact ⟨c, by simp, fun x => ded_mem⟩
        · rw [List.pairwise_append]
          exact ⟨ih.keys, by simp, fun a ha b hb => by simp at hb; subst hb; exact hne a ha⟩
        · rcases List.mem_append.1 he with he | he
          · rcases ih.kept e he with h | ⟨d, hd, h⟩
            · exact .inl h
            · exact .inr ⟨d, by simp [hd], h⟩
          · simp at he; subst he
            exact .inr ⟨dedM e, by simp, fun x => ded_mem⟩
end Go.Ab
