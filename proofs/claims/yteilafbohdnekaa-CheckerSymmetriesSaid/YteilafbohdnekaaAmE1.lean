/- Chapter 23: identity, composition and inverse of symmetries, in plain terms. -/
import Derived.Test.YteilafbohdnekaaAmD8
set_option linter.unusedSimpArgs false
set_option linter.unusedVariables false
namespace Go.Ab
open Go Go.Proofs
set_option maxRecDepth 20000
set_option maxHeartbeats 4000000
theorem withinM_of {v : Int} {l : List Int} (h : ∀ x ∈ l, x ≠ 0 ∧ x ≤ v ∧ 0 - v ≤ x) : withinM v l = true := by
  unfold withinM
  rw [List.all_eq_true]
  intro x hx
  rw [decide_eq_true_eq]
  exact h x hx
theorem symOk_iff {n : Int} {cl : List (List Int)} {sy : List Int} : symOk n cl sy = true ↔ (sy.length : Int) = n ∧ withinM n sy = true ∧ (sy.map Int.natAbs).Nodup ∧ ∀ c ∈ cl, ∃ d ∈ cl, ∀ x, x ∈ d ↔ x ∈ imgL sy c := by
  unfold symOk symC
  simp only [Bool.and_eq_true, decide_eq_true_eq, List.all_eq_true, List.any_eq_true, canon_iff, and_assoc]
theorem imgX_neg {sy : List Int} {x : Int} (h : x ≠ 0) : imgX sy (-x) = -(imgX sy x) := by
  unfold imgX
  by_cases h0 : 0 < x
  · rw [if_neg (by omega), if_pos h0, show - -x - 1 = x - 1 from by omega]
  · rw [if_pos (by omega), if_neg h0, Int.neg_neg]
theorem imgX_pos {sy : List Int} {x : Int} (h : 0 < x) (hl : (x - 1).toNat < sy.length) : imgX sy x = sy[(x - 1).toNat] := by
  unfold imgX
  rw [if_pos h, List.getD_eq_getElem?_getD, List.getElem?_eq_getElem hl]; rfl
theorem imgX_in {n : Int} {sy : List Int} (hl : (sy.length : Int) = n) (hw : withinM n sy = true) {x : Int} (h : x ≠ 0 ∧ x ≤ n ∧ 0 - n ≤ x) : imgX sy x ≠ 0 ∧ imgX sy x ≤ n ∧ 0 - n ≤ imgX sy x := by
  have hb := withinM_spec hw
  by_cases h0 : 0 < x
  · rw [imgX_pos h0 (by omega)]
    have := hb _ (List.getElem_mem (show (x - 1).toNat < sy.length by omega))
    omega
  · have e : x = -(-x) := by omega
    rw [e, imgX_neg (by omega), imgX_pos (by omega) (by omega)]
    have := hb _ (List.getElem_mem (show (-x - 1).toNat < sy.length by omega))
    omega
theorem imgL_in {n : Int} {sy : List Int} (hl : (sy.length : Int) = n) (hw : withinM n sy = true) {c : List Int} (h : withinM n c = true) : withinM n (imgL sy c) = true := by
  have hb := withinM_spec h
  refine withinM_of fun y hy => ?_
  obtain ⟨x, hx, rfl⟩ := List.mem_map.1 hy
  have := hb x hx
  exact imgX_in hl hw (by omega)
theorem imgX_comp {n : Int} {a b : List Int} (hl : (a.length : Int) = n) (hw : withinM n a = true) {x : Int} (h : x ≠ 0 ∧ x ≤ n ∧ 0 - n ≤ x) : imgX (imgL b a) x = imgX b (imgX a x) := by
  have hb := withinM_spec hw
  have key : ∀ y : Int, 0 < y → y ≤ n → imgX (imgL b a) y = imgX b (imgX a y) := fun y h0 h1 => by
    have h2 : (y - 1).toNat < a.length := by omega
    rw [imgX_pos h0 h2, imgX_pos h0 (by rw [imgL_len]; exact h2)]
    unfold imgL
    rw [List.getElem_map]
  by_cases h0 : 0 < x
  · exact key x h0 h.2.1
  · obtain ⟨y, rfl⟩ : ∃ y : Int, x = -y := ⟨-x, by omega⟩
    have hz := imgX_in hl hw (x := y) (by omega)
    rw [imgX_neg (sy := imgL b a) (by omega), imgX_neg (sy := a) (by omega), imgX_neg hz.1, key y (by omega) (by omega)]
theorem imgL_comp {n : Int} {a b c : List Int} (hl : (a.length : Int) = n) (hw : withinM n a = true) (hc : withinM n c = true) : imgL (imgL b a) c = imgL b (imgL a c) := by
  have hb := withinM_spec hc
  show c.map (imgX (imgL b a)) = (c.map (imgX a)).map (imgX b)
  rw [List.map_map]
  refine List.map_congr_left fun x hx => ?_
  have := hb x hx
  exact imgX_comp hl hw (by omega)
theorem imgX_abs {sy : List Int} {x : Int} (h : x ≠ 0) (hl : x.natAbs - 1 < sy.length) : (imgX sy x).natAbs = (sy[x.natAbs - 1]).natAbs := by
  by_cases h0 : 0 < x
  · rw [imgX_pos h0 (by omega)]
    congr 2; omega
  · obtain ⟨y, rfl⟩ : ∃ y : Int, x = -y := ⟨-x, by omega⟩
    rw [imgX_neg (by omega), imgX_pos (by omega) (by omega), Int.natAbs_neg]
    congr 2; omega
theorem nodup_at {l : List Nat} (h : l.Nodup) : ∀ {i j : Nat} (hi : i < l.length) (hj : j < l.length), l[i] = l[j] → i = j := by
  intro i j hi hj e
  have hp := List.pairwise_iff_getElem.1 h
  rcases Nat.lt_trichotomy i j with g | g | g
  · exact (hp i j hi hj g e).elim
  · exact g
  · exact (hp j i hj hi g e.symm).elim
theorem imgX_inj {n : Int} {sy : List Int} (hl : (sy.length : Int) = n) (hd : (sy.map Int.natAbs).Nodup) {x y : Int} (hx : x ≠ 0 ∧ x ≤ n ∧ 0 - n ≤ x) (hy : y ≠ 0 ∧ y ≤ n ∧ 0 - n ≤ y) (h : (imgX sy x).natAbs = (imgX sy y).natAbs) : x.natAbs = y.natAbs := by
  rw [imgX_abs hx.1 (by omega), imgX_abs hy.1 (by omega)] at h
  have := nodup_at hd (i := x.natAbs - 1) (j := y.natAbs - 1) (by rw [List.length_map]; omega) (by rw [List.length_map]; omega) (by rw [List.getElem_map, List.getElem_map]; exact h)
  omega
theorem sym_comp {n : Int} {cl : List (List Int)} {a b : List Int} (hcl : ∀ c ∈ cl, withinM n c = true) (ha : symOk n cl a = true) (hb : symOk n cl b = true) : symOk n cl (imgL b a) = true := by
  obtain ⟨a1, a2, a3, a4⟩ := symOk_iff.1 ha
  obtain ⟨b1, b2, b3, b4⟩ := symOk_iff.1 hb
  have haw := withinM_spec a2
  refine symOk_iff.2 ⟨by rw [imgL_len]; exact a1, imgL_in b1 b2 a2, ?_, fun c hc => ?_⟩
  · have h1 := List.pairwise_map.1 a3
    unfold imgL
    rw [List.map_map]
    refine List.pairwise_map.2 (h1.imp_of_mem fun {x y} hx hy hne e => hne ?_)
    have := haw x hx
    have := haw y hy
    exact imgX_inj b1 b3 (by omega) (by omega) e
  · obtain ⟨d, hd, hdc⟩ := a4 c hc
    obtain ⟨e, he, hed⟩ := b4 d hd
    refine ⟨e, he, fun x => ?_⟩
    rw [hed x, imgL_comp a1 a2 (hcl c hc)]
    unfold imgL at hdc ⊢
    simp only [List.mem_map] at hdc ⊢
    constructor
    · rintro ⟨y, hy, rfl⟩
      obtain ⟨z, hz, rfl⟩ := (hdc y).1 hy
      exact ⟨_, ⟨z, hz, rfl⟩, rfl⟩
    · rintro ⟨y, ⟨z, hz, rfl⟩, rfl⟩
      exact ⟨_, (hdc _).2 ⟨z, hz, rfl⟩, rfl⟩
/-- the identity. -/
def idS (n : Nat) : List Int := (List.range n).map fun i : Nat => ((i : Int) + 1)
theorem idS_len (n : Nat) : (idS n).length = n := by unfold idS; simp
theorem idS_succ (n : Nat) : idS (n + 1) = idS n ++ [(n : Int) + 1] := by unfold idS; rw [List.range_succ, List.map_append]; rfl
theorem imgX_id {n : Nat} {x : Int} (h : x ≠ 0 ∧ x ≤ n ∧ 0 - (n : Int) ≤ x) : imgX (idS n) x = x := by
  have key : ∀ y : Int, 0 < y → y ≤ n → imgX (idS n) y = y := fun y h0 h1 => by
    rw [imgX_pos h0 (by rw [idS_len]; omega)]
    unfold idS
    rw [List.getElem_map, List.getElem_range]; omega
  by_cases h0 : 0 < x
  · exact key x h0 h.2.1
  · obtain ⟨y, rfl⟩ : ∃ y : Int, x = -y := ⟨-x, by omega⟩
    rw [imgX_neg (by omega), key y (by omega) (by omega)]
theorem sym_id {n : Nat} {cl : List (List Int)} (hcl : ∀ c ∈ cl, withinM n c = true) : symOk n cl (idS n) = true := by
  refine symOk_iff.2 ⟨by rw [idS_len], withinM_of fun x hx => ?_, ?_, fun c hc => ⟨c, hc, ?_⟩⟩
  · unfold idS at hx
    obtain ⟨i, hi, rfl⟩ := List.mem_map.1 hx
    have := List.mem_range.1 hi
    omega
  · unfold idS
    rw [List.map_map]
    refine List.pairwise_map.2 (List.pairwise_lt_range.imp fun {i j} h => ?_)
    show ((i : Int) + 1).natAbs ≠ ((j : Int) + 1).natAbs
    omega
  · have : imgL (idS n) c = c := by
      have hb := withinM_spec (hcl c hc)
      unfold imgL
      refine (List.map_congr_left fun x hx => ?_).trans (List.map_id c)
      have := hb x hx
      exact imgX_id (by omega)
    rw [this]; exact fun _ => Iff.rfl
theorem len_sub {α : Type} [BEq α] [LawfulBEq α] : ∀ {l m : List α}, l.Nodup → (∀ x ∈ l, x ∈ m) → l.length ≤ m.length
  | [], _, _, _ => Nat.zero_le _
  | x :: l, m, hd, h => by
    obtain ⟨h1, h2⟩ := List.nodup_cons.1 hd
    have hm : x ∈ m := h x (by simp)
    have := len_sub (l := l) (m := m.erase x) h2 fun y hy => (List.mem_erase_of_ne (fun e => by subst e; exact h1 hy)).2 (h y (by simp [hy]))
    rw [List.length_erase_of_mem hm] at this
    have : 0 < m.length := List.length_pos_of_mem hm
    simp only [List.length_cons]; omega
/-- a list of distinct members of another that is not longer holds them all. -/
theorem all_in {α : Type} [BEq α] [LawfulBEq α] {l m : List α} (hd : l.Nodup) (h : ∀ x ∈ l, x ∈ m) (hl : m.length ≤ l.length) {x : α} (hx : x ∈ m) : x ∈ l := by
  by_cases hxl : x ∈ l
  · exact hxl
  · have := len_sub (l := x :: l) (m := m) (List.nodup_cons.2 ⟨hxl, hd⟩) fun y hy => by
      rcases List.mem_cons.1 hy with rfl | hy
      · exact hx
      · exact h y hy
    simp only [List.length_cons] at this
    omega
def ded : List (List Int) → List (List Int)
  | [] => []
  | x :: l => if x ∈ ded l then ded l else x :: ded l
theorem ded_mem {x : List Int} : ∀ {l : List (List Int)}, x ∈ ded l ↔ x ∈ l
  | [] => Iff.rfl
  | y :: l => by
    unfold ded
    split
    · rename_i h
      rw [ded_mem, List.mem_cons]
      exact ⟨.inr, fun g => g.elim (fun e => e ▸ ded_mem.1 h) id⟩
    · rw [List.mem_cons, List.mem_cons, ded_mem]
theorem ded_nodup : ∀ l : List (List Int), (ded l).Nodup
  | [] => List.nodup_nil
  | y :: l => by
    unfold ded
    split
    · exact ded_nodup l
    · rename_i h
      exact List.nodup_cons.2 ⟨h, ded_nodup l⟩
/-- the inverse, as it is filled in. -/
def bkR (a : List Int) : Nat → List Int
  | 0 => List.replicate a.length 0
  | k + 1 => (bkR a k).set ((a.getD k 0).natAbs - 1) (if 0 < a.getD k 0 then (k : Int) + 1 else 0 - (k : Int) - 1)
theorem bkR_len (a : List Int) : ∀ k, (bkR a k).length = a.length
  | 0 => by simp [bkR]
  | k + 1 => by rw [bkR, List.length_set, bkR_len a k]
theorem bkR_get {n : Int} {a : List Int} (hl : (a.length : Int) = n) (hw : withinM n a = true) (hd : (a.map Int.natAbs).Nodup) : ∀ (k : Nat), k ≤ a.length → ∀ (i : Nat) (hi : i < a.length), i < k → (bkR a k)[a[i].natAbs - 1]? = some (if 0 < a[i] then (i : Int) + 1 else 0 - (i : Int) - 1)
  | 0, _, i, _, h => by omega
  | k + 1, hk, i, hi, h => by
    have hb := withinM_spec hw
    have hka : a.getD k 0 = a[k]'(by omega) := by rw [List.getD_eq_getElem?_getD, List.getElem?_eq_getElem (by omega)]; rfl
    have h1 := hb _ (List.getElem_mem hi)
    have h2 := hb _ (List.getElem_mem (show k < a.length by omega))
    rw [bkR, hka, List.getElem?_set, bkR_len]
    by_cases e : i = k
    · subst e
      rw [if_pos rfl, if_pos (by omega)]
    · have hne : ¬ (a[k]'(by omega)).natAbs - 1 = a[i].natAbs - 1 := fun g => e (nodup_at hd (by rw [List.length_map]; exact hi) (by rw [List.length_map]; omega) (by rw [List.getElem_map, List.getElem_map]; omega))
      rw [if_neg hne]
      exact bkR_get hl hw hd k (by omega) i hi (by omega)
def bkS (a : List Int) : List Int := bkR a a.length
theorem surj_abs {n : Int} {a : List Int} (hl : (a.length : Int) = n) (hw : withinM n a = true) (hd : (a.map Int.natAbs).Nodup) {j : Nat} (hj : j < a.length) : ∃ (i : Nat) (hi : i < a.length), a[i].natAbs = j + 1 := by
  have hb := withinM_spec hw
  have : j + 1 ∈ a.map Int.natAbs := by
    refine all_in (m := (List.range a.length).map fun i => i + 1) hd (fun x hx => ?_) (by simp) (List.mem_map.2 ⟨j, List.mem_range.2 hj, rfl⟩)
    obtain ⟨y, hy, rfl⟩ := List.mem_map.1 hx
    have := hb y hy
    exact List.mem_map.2 ⟨y.natAbs - 1, List.mem_range.2 (by omega), by omega⟩
  obtain ⟨y, hy, e⟩ := List.mem_map.1 this
  obtain ⟨i, hi, rfl⟩ := List.getElem_of_mem hy
  exact ⟨i, hi, e⟩
theorem bkS_len (a : List Int) : (bkS a).length = a.length := bkR_len a _
theorem bkS_at {n : Int} {a : List Int} (hl : (a.length : Int) = n) (hw : withinM n a = true) (hd : (a.map Int.natAbs).Nodup) {j : Nat} (hj : j < a.length) : ∃ (i : Nat) (hi : i < a.length), a[i].natAbs = j + 1 ∧ (bkS a)[j]'(by rw [bkS_len]; exact hj) = if 0 < a[i] then (i : Int) + 1 else 0 - (i : Int) - 1 := by
  obtain ⟨i, hi, e⟩ := surj_abs hl hw hd hj
  have := bkR_get hl hw hd a.length (Nat.le_refl _) i hi hi
  rw [e] at this
  have h2 : (bkS a)[j]? = some (if 0 < a[i] then (i : Int) + 1 else 0 - (i : Int) - 1) := this
  rw [List.getElem?_eq_getElem (by rw [bkS_len]; exact hj)] at h2
  exact ⟨i, hi, e, Option.some.inj h2⟩
theorem imgX_back {n : Int} {a : List Int} (hl : (a.length : Int) = n) (hw : withinM n a = true) (hd : (a.map Int.natAbs).Nodup) {x : Int} (h : x ≠ 0 ∧ x ≤ n ∧ 0 - n ≤ x) : imgX (bkS a) (imgX a x) = x := by
  have hb := withinM_spec hw
  have key : ∀ y : Int, 0 < y → y ≤ n → imgX (bkS a) (imgX a y) = y := fun y h0 h1 => by
    have h2 : (y - 1).toNat < a.length := by omega
    rw [imgX_pos h0 h2]
    have h3 := bkR_get hl hw hd a.length (Nat.le_refl _) _ h2 h2
    have h4 := hb _ (List.getElem_mem h2)
    generalize a[(y - 1).toNat] = z at h3 h4
    have h5 : (bkS a)[z.natAbs - 1]? = some (if 0 < z then ((y - 1).toNat : Int) + 1 else 0 - ((y - 1).toNat : Int) - 1) := h3
    by_cases hz : 0 < z
    · rw [if_pos hz] at h5
      unfold imgX
      rw [if_pos hz, List.getD_eq_getElem?_getD, show (z - 1).toNat = z.natAbs - 1 by omega, h5]
      simp only [Option.getD_some]; omega
    · rw [if_neg hz] at h5
      unfold imgX
      rw [if_neg hz, List.getD_eq_getElem?_getD, show (-z - 1).toNat = z.natAbs - 1 by omega, h5]
      simp only [Option.getD_some]; omega
  by_cases h0 : 0 < x
  · exact key x h0 h.2.1
  · obtain ⟨y, rfl⟩ : ∃ y : Int, x = -y := ⟨-x, by omega⟩
    have hz := imgX_in hl hw (x := y) (by omega)
    rw [imgX_neg (sy := a) (by omega), imgX_neg hz.1, key y (by omega) (by omega)]
theorem imgL_back {n : Int} {a : List Int} (hl : (a.length : Int) = n) (hw : withinM n a = true) (hd : (a.map Int.natAbs).Nodup) {c : List Int} (hc : withinM n c = true) : imgL (bkS a) (imgL a c) = c := by
  have hb := withinM_spec hc
  show (c.map (imgX a)).map (imgX (bkS a)) = c
  rw [List.map_map]
  refine (List.map_congr_left fun x hx => ?_).trans (List.map_id c)
  have := hb x hx
  exact imgX_back hl hw hd (by omega)
theorem imgL_congr {sy a b : List Int} (h : ∀ x, x ∈ a ↔ x ∈ b) : ∀ x, x ∈ imgL sy a ↔ x ∈ imgL sy b := fun x => by
  unfold imgL
  simp only [List.mem_map, h]
theorem within_congr {n : Int} {a b : List Int} (h : ∀ x, x ∈ a ↔ x ∈ b) (ha : withinM n a = true) : withinM n b = true := by
  have hb := withinM_spec ha
  exact withinM_of fun x hx => by have := hb x ((h x).2 hx); omega
theorem sym_back {n : Int} {cl : List (List Int)} {a : List Int} (hcl : ∀ c ∈ cl, withinM n c = true) (ha : symOk n cl a = true) : symOk n cl (bkS a) = true := by
  obtain ⟨a1, a2, a3, a4⟩ := symOk_iff.1 ha
  refine symOk_iff.2 ⟨by rw [bkS_len]; exact a1, withinM_of fun x hx => ?_, ?_, fun c hc => ?_⟩
  · obtain ⟨j, hj, rfl⟩ := List.getElem_of_mem hx
    obtain ⟨i, hi, _, e⟩ := bkS_at a1 a2 a3 (j := j) (by rw [bkS_len] at hj; exact hj)
    rw [e]
    split <;> omega
  · refine List.pairwise_map.2 (List.pairwise_iff_getElem.2 fun j1 j2 h1 h2 hlt e => ?_)
    obtain ⟨i1, g1, e1, f1⟩ := bkS_at a1 a2 a3 (j := j1) (by rw [bkS_len] at h1; exact h1)
    obtain ⟨i2, g2, e2, f2⟩ := bkS_at a1 a2 a3 (j := j2) (by rw [bkS_len] at h2; exact h2)
    rw [f1, f2] at e
    have : i1 = i2 := by split at e <;> split at e <;> omega
    subst this
    omega
  · have hcc : ∀ c : List Int, ∀ x, x ∈ canon c ↔ x ∈ c := fun c x => canon_mem
    have hmem : canon c ∈ (ded (cl.map canon)).map fun k => canon (imgL a k) := by
      refine all_in (m := ded (cl.map canon)) ?_ (fun k hk => ?_) (by simp) (ded_mem.2 (List.mem_map.2 ⟨c, hc, rfl⟩))
      · refine List.pairwise_map.2 ((ded_nodup _).imp_of_mem fun {x y} hx hy hne e => hne ?_)
        obtain ⟨c1, hc1, rfl⟩ := List.mem_map.1 (ded_mem.1 hx)
        obtain ⟨c2, hc2, rfl⟩ := List.mem_map.1 (ded_mem.1 hy)
        have e2 := imgL_congr (sy := bkS a) (canon_iff.1 e)
        rw [imgL_back a1 a2 a3 (within_congr (fun x => (hcc c1 x).symm) (hcl c1 hc1)), imgL_back a1 a2 a3 (within_congr (fun x => (hcc c2 x).symm) (hcl c2 hc2))] at e2
        exact canon_iff.2 fun x => by rw [← hcc c1, ← hcc c2]; exact e2 x
      · obtain ⟨k', hk', rfl⟩ := List.mem_map.1 hk
        obtain ⟨d, hd, rfl⟩ := List.mem_map.1 (ded_mem.1 hk')
        obtain ⟨e, he, hed⟩ := a4 d hd
        refine ded_mem.2 (List.mem_map.2 ⟨e, he, canon_iff.2 fun x => ?_⟩)
        rw [hed x]
        exact (imgL_congr (hcc d) x).symm
    obtain ⟨k, hk, e⟩ := List.mem_map.1 hmem
    obtain ⟨d, hd, rfl⟩ := List.mem_map.1 (ded_mem.1 hk)
    refine ⟨d, hd, fun x => ?_⟩
    have e2 := imgL_congr (sy := bkS a) (canon_iff.1 e) x
    rw [imgL_back a1 a2 a3 (within_congr (fun x => (hcc d x).symm) (hcl d hd))] at e2
    rw [← hcc d x, e2]
end Go.Ab
