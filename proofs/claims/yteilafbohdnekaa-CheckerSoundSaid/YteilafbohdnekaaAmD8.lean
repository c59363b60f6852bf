/- Chapter 23: a justified proof is sound, in plain terms. -/
import Derived.Test.YteilafbohdnekaaAmD7
set_option linter.unusedSimpArgs false
set_option linter.unusedVariables false
namespace Go.Ab
open Go Go.Proofs
set_option maxRecDepth 20000
set_option maxHeartbeats 4000000
theorem litT_app {v w : List Bool} {x : Int} (h : x ≤ v.length ∧ 0 - (v.length : Int) ≤ x) : litT (v ++ w) x = litT v x := by
  unfold litT
  by_cases h1 : 0 < x
  · rw [if_pos h1, if_pos h1, List.getD_eq_getElem?_getD, List.getD_eq_getElem?_getD, List.getElem?_append_left (by omega)]
  · rw [if_neg h1, if_neg h1]
    by_cases h2 : x < 0
    · rw [if_pos h2, if_pos h2, List.getD_eq_getElem?_getD, List.getD_eq_getElem?_getD, List.getElem?_append_left (by omega)]
    · rw [if_neg h2, if_neg h2]
theorem trueM_app {v w : List Bool} {c : List Int} (h : withinM v.length c = true) : trueM (v ++ w) c = trueM v c := by
  have hb := withinM_spec h
  unfold trueM
  rw [Bool.eq_iff_iff, List.any_eq_true, List.any_eq_true]
  exact ⟨fun ⟨x, hx, g⟩ => ⟨x, hx, by rwa [litT_app (by have := hb x hx; omega)] at g⟩, fun ⟨x, hx, g⟩ => ⟨x, hx, by rwa [litT_app (by have := hb x hx; omega)]⟩⟩
theorem litT_end {v : List Bool} {b : Bool} : litT (v ++ [b]) ((v.length : Int) + 1) = b := by
  have e : ((v.length : Int) + 1 - 1).toNat = v.length := by omega
  rw [litT_pos (by omega) (by rw [e]; simp)]
  simp only [e]
  simp
/-- the value that a definition gives. -/
def extB (v : List Bool) (c : List Int) : Bool := (c.drop 1).all (litT v)
def extN : List Bool → List StepM → List Bool
  | v, [] => v
  | v, t :: l => extN (if t.kind = 3 then v ++ [extB v t.lits] else v) l
def extOk : List Bool → List StepM → Bool
  | _, [] => true
  | v, t :: l => if t.kind = 3 then extOk (v ++ [extB v t.lits]) l else if t.kind = 1 ∨ t.kind = 4 then trueM v t.lits && extOk v l else extOk v l
def insideM : Int → List StepM → Bool
  | _, [] => true
  | n, t :: l => if t.kind = 3 then (decide (2 ≤ t.lits.length ∧ t.lits.getD 0 0 = n + 1) && withinM n (t.lits.drop 1)) && insideM (n + 1) l else withinM n t.lits && insideM n l
theorem inside_run {e : EnM} : ∀ (L : List StepM) {s : StM}, (runC e s L).2 = L.length → insideM s.vars L = true
  | [], s, _ => rfl
  | t :: L, s, h => by
    cases hs : stepC e s t with
    | none => rw [runC, hs] at h; simp at h
    | some u =>
      rw [runC_cons hs] at h
      have ih := inside_run (e := e) L (s := u) (by simp at h; exact h)
      unfold insideM
      by_cases k3 : t.kind = 3
      · rw [if_pos k3]
        rw [stepC_3 k3, defineC] at hs
        split at hs
        · rename_i c
          cases hs
          rw [decide_eq_true ⟨c.2.1, c.2.2.1⟩, c.2.2.2.2]
          simpa using ih
        · cases hs
      · rw [if_neg k3]
        have : withinM s.vars t.lits = true ∧ u.vars = s.vars := by
          unfold stepC at hs
          split at hs
          · unfold learnC at hs
            split at hs
            · rename_i c; cases hs; exact ⟨c.2.1, rfl⟩
            · cases hs
          · split at hs
            · unfold removeC at hs
              split at hs
              · rename_i c; cases hs; exact ⟨c.2.1, rfl⟩
              · cases hs
            · split at hs
              · unfold symmC at hs
                split at hs
                · rename_i c; cases hs; exact ⟨c.1, rfl⟩
                · cases hs
              · cases hs
        rw [this.1, ← this.2, ih]; rfl
/-- an assignment composed with a symmetry. -/
theorem sym_sat {n : Int} {cl : List (List Int)} {sy : List Int} {v : List Bool} (hcl : ∀ c ∈ cl, withinM n c = true) (hs : symOk n cl sy = true) (hv : allM v cl = true) : ((sy.map (litT v)).length : Int) = n ∧ allM (sy.map (litT v)) cl = true ∧ ∀ x : Int, x ≠ 0 → x ≤ n → 0 - n ≤ x → litT (sy.map (litT v)) x = litT v (imgX sy x) := by
  obtain ⟨y1, y2⟩ := symOk_facts hs
  have hz := withinM_spec y2
  have key : ∀ x : Int, x ≠ 0 → x ≤ n → 0 - n ≤ x → litT (sy.map (litT v)) x = litT v (imgX sy x) := by
    intro x h0 h1 h2
    by_cases hp : 0 < x
    · have hl : (x - 1).toNat < sy.length := by omega
      rw [litT_pos hp (by simpa using hl)]
      unfold imgX
      rw [if_pos hp, List.getD_eq_getElem?_getD, List.getElem?_eq_getElem hl]
      simp
    · have hl : (0 - x - 1).toNat < sy.length := by omega
      have e : (-x - 1).toNat = (0 - x - 1).toNat := by omega
      rw [litT_neg (by omega) (by simpa using hl)]
      have e2 : sy.getD (-x - 1).toNat 0 = sy[(0 - x - 1).toNat] := by rw [e, List.getD_eq_getElem?_getD, List.getElem?_eq_getElem hl]; rfl
      unfold imgX
      rw [if_neg hp, e2, litT_not v (hz _ (List.getElem_mem hl)).1]
      simp only [List.getElem_map]
  refine ⟨by rw [List.length_map]; exact y1, ?_, key⟩
  unfold allM
  rw [List.all_eq_true]
  intro c hc
  have hsc : cl.all (symC cl sy) = true := by
    unfold symOk at hs
    simp only [Bool.and_eq_true] at hs
    exact hs.2
  obtain ⟨d, hd, hdc⟩ := List.any_eq_true.1 (List.all_eq_true.1 hsc c hc)
  rw [decide_eq_true_eq, canon_iff] at hdc
  obtain ⟨y, hy, hyt⟩ := allM_at hv hd
  have hyi := (hdc y).1 hy
  unfold imgL at hyi
  obtain ⟨x, hx, rfl⟩ := List.mem_map.1 hyi
  have hxb := withinM_spec (hcl c hc) x hx
  unfold trueM
  rw [List.any_eq_true]
  exact ⟨x, hx, by rw [key x hxb.1 hxb.2.1 (by omega)]; exact hyt⟩
/-- a state is sound: under each satisfying assignment, extended, all its clauses hold. -/
structure SoundC (e : EnM) (s : StM) (K : List StepM) : Prop where
  len : ∀ v : List Bool, (v.length : Int) = e.v0 → allM v e.cl0 = true → ((extN v K).length : Int) = s.vars
  all : ∀ v : List Bool, (v.length : Int) = e.v0 → allM v e.cl0 = true → allM (extN v K) s.cl = true
  pre : ∀ v : List Bool, (v.length : Int) = e.v0 → allM v e.cl0 = true → ∃ w, extN v K = v ++ w
  noref : s.ref = true → ∀ v : List Bool, (v.length : Int) = e.v0 → allM v e.cl0 = true → False
theorem extN_app : ∀ (K : List StepM) (v : List Bool) (t : StepM), extN v (K ++ [t]) = if t.kind = 3 then extN v K ++ [extB (extN v K) t.lits] else extN v K
  | [], v, t => rfl
  | u :: K, v, t => by
    rw [List.cons_append, extN, extN, extN_app K]
theorem allM_snoc {v : List Bool} {cl : List (List Int)} {c : List Int} (h : allM v cl = true) (hc : trueM v c = true) : allM v (cl ++ [c]) = true := by
  unfold allM at h ⊢
  rw [List.all_append, h]; simp [hc]
theorem SoundC.learn {e : EnM} {s : StM} {K : List StepM} {t : StepM} (h : SoundC e s K) (h3 : t.kind ≠ 3) (hT : ∀ v : List Bool, (v.length : Int) = e.v0 → allM v e.cl0 = true → trueM (extN v K) t.lits = true) : SoundC e (addC s t.lits) (K ++ [t]) where
  len := fun v h1 h2 => by rw [extN_app, if_neg h3]; exact h.len v h1 h2
  all := fun v h1 h2 => by rw [extN_app, if_neg h3]; exact allM_snoc (h.all v h1 h2) (hT v h1 h2)
  pre := fun v h1 h2 => by rw [extN_app, if_neg h3]; exact h.pre v h1 h2
  noref := fun hr v h1 h2 => by
    have hr' : (s.ref || decide ((t.lits.length : Int) = 0)) = true := hr
    rw [Bool.or_eq_true, decide_eq_true_eq] at hr'
    rcases hr' with hr' | hr'
    · exact h.noref hr' v h1 h2
    · have := hT v h1 h2
      have h0 : t.lits = [] := List.eq_nil_of_length_eq_zero (by omega)
      rw [h0] at this
      simp [trueM] at this
theorem sound_step {e : EnM} {B : Nat} {s u : StM} {K : List StepM} {t : StepM} (hcl0 : ∀ c ∈ e.cl0, withinM e.v0 c = true) (hv0 : 0 ≤ e.v0) (h : SoundC e s K) (hok : StOk B s) (hs : stepC e s t = some u) :
    SoundC e u (K ++ [t]) ∧ ∀ v : List Bool, (v.length : Int) = e.v0 → allM v e.cl0 = true → (t.kind = 1 ∨ t.kind = 4) → trueM (extN v K) t.lits = true := by
  by_cases k1 : t.kind = 1
  · rw [stepC_1 k1, learnC] at hs
    split at hs
    · rename_i c
      cases hs
      have hT : ∀ v : List Bool, (v.length : Int) = e.v0 → allM v e.cl0 = true → trueM (extN v K) t.lits = true := fun v h1 h2 =>
        (sound_law (assume := []) hok.hv.1 (fun c hc => (hok.hcl c hc).1) rfl c.2.1 (h.all v h1 h2)).1 c.2.2
      exact ⟨h.learn (by omega) hT, fun v h1 h2 _ => hT v h1 h2⟩
    · cases hs
  by_cases k2 : t.kind = 2
  · rw [stepC_2 k2, removeC] at hs
    split at hs
    · cases hs
      have h3 : ¬ t.kind = 3 := by omega
      refine ⟨⟨fun v h1 h2 => by rw [extN_app, if_neg h3]; exact h.len v h1 h2, fun v h1 h2 => ?_, fun v h1 h2 => by rw [extN_app, if_neg h3]; exact h.pre v h1 h2, h.noref⟩, fun v _ _ hk => by omega⟩
      rw [extN_app, if_neg h3]
      have := h.all v h1 h2
      unfold allM at this ⊢
      rw [List.all_eq_true] at this ⊢
      exact fun c hc => this c (List.mem_of_mem_eraseIdx hc)
    · cases hs
  by_cases k3 : t.kind = 3
  · rw [stepC_3 k3, defineC] at hs
    split at hs
    · rename_i c
      obtain ⟨_, c2, c3, _, c5⟩ := c
      cases hs
      have hd : ∀ v : List Bool, (v.length : Int) = e.v0 → allM v e.cl0 = true → ((extN v K).length : Int) = s.vars := h.len
      refine ⟨⟨fun v h1 h2 => ?_, fun v h1 h2 => ?_, fun v h1 h2 => ?_, h.noref⟩, fun v _ _ hk => by omega⟩
      · rw [extN_app, if_pos k3, List.length_append]
        have := h.len v h1 h2
        show _ = s.vars + 1
        simp; omega
      · rw [extN_app, if_pos k3]
        have hl := h.len v h1 h2
        have ha := h.all v h1 h2
        generalize extN v K = w at hl ha
        generalize t.lits.getD 0 0 = g at c3
        have hg : g = (w.length : Int) + 1 := by omega
        have hb := withinM_spec c5
        unfold extB
        generalize t.lits.drop 1 = r at c5 hb
        show allM _ (s.cl ++ defs g r) = true
        unfold allM at ha ⊢
        rw [List.all_eq_true] at ha ⊢
        intro c hc
        rcases List.mem_append.1 hc with hc | hc
        · rw [trueM_app (by rw [hl]; exact (hok.hcl c hc).1)]
          exact ha c hc
        · have hrx : ∀ x ∈ r, litT (w ++ [r.all (litT w)]) x = litT w x := fun x hx => litT_app (by have := hb x hx; omega)
          have hge : litT (w ++ [r.all (litT w)]) g = r.all (litT w) := by rw [hg]; exact litT_end
          have hgn : litT (w ++ [r.all (litT w)]) (-g) = !(r.all (litT w)) := by rw [litT_not _ (by omega), hge]
          unfold trueM
          rw [List.any_eq_true]
          unfold defs at hc
          cases hr : r.all (litT w) with
          | true =>
            rw [hr] at hrx hge hgn
            rcases List.mem_append.1 hc with hc | hc
            · obtain ⟨x, hx, rfl⟩ := List.mem_map.1 hc
              exact ⟨x, by simp, by rw [hrx x hx]; exact List.all_eq_true.1 hr x hx⟩
            · simp only [List.mem_singleton] at hc
              subst hc
              exact ⟨g, by simp, hge⟩
          | false =>
            rw [hr] at hrx hge hgn
            rcases List.mem_append.1 hc with hc | hc
            · obtain ⟨x, hx, rfl⟩ := List.mem_map.1 hc
              exact ⟨-g, by simp, hgn⟩
            · simp only [List.mem_singleton] at hc
              subst hc
              obtain ⟨x, hx, hxf⟩ := List.all_eq_false.1 hr
              refine ⟨-x, by simp only [List.mem_cons, List.mem_map]; exact .inr ⟨x, hx, rfl⟩, ?_⟩
              rw [litT_not _ (hb x hx).1, hrx x hx]
              simpa using hxf
      · obtain ⟨w, hw⟩ := h.pre v h1 h2
        rw [extN_app, if_pos k3, hw]
        exact ⟨w ++ [extB (v ++ w) t.lits], by rw [List.append_assoc]⟩
    · cases hs
  by_cases k4 : t.kind = 4
  · rw [stepC_4 k4, symmC] at hs
    split at hs
    · rename_i c
      obtain ⟨c1, _, c3, c4⟩ := c
      cases hs
      generalize e.syms.getD t.sym.toNat [] = sy at c3 c4
      obtain ⟨d, hd, hdm⟩ := List.any_eq_true.1 c4
      unfold mapC at hdm
      rw [Bool.and_eq_true, decide_eq_true_eq, canon_iff] at hdm
      obtain ⟨hdw, hdm⟩ := hdm
      have hT : ∀ v : List Bool, (v.length : Int) = e.v0 → allM v e.cl0 = true → trueM (extN v K) t.lits = true := fun v h1 h2 => by
        obtain ⟨g1, g2, g3⟩ := sym_sat hcl0 c3 h2
        have hda := h.all _ g1 g2
        obtain ⟨w, hw⟩ := h.pre _ g1 g2
        obtain ⟨w', hw'⟩ := h.pre v h1 h2
        have ht := List.all_eq_true.1 hda d hd
        rw [hw, trueM_app (by rw [g1]; exact hdw)] at ht
        obtain ⟨x, hx, hxt⟩ := List.any_eq_true.1 ht
        have hxb := withinM_spec hdw x hx
        rw [g3 x hxb.1 hxb.2.1 (by omega)] at hxt
        have hmem : imgX sy x ∈ t.lits := (hdm _).1 (by unfold imgL; exact List.mem_map.2 ⟨x, hx, rfl⟩)
        have hyb := withinM_spec (symOk_facts c3).2
        have hyl := (symOk_facts c3).1
        have him : imgX sy x ≤ v.length ∧ 0 - (v.length : Int) ≤ imgX sy x := by
          unfold imgX
          split
          · have hl : (x - 1).toNat < sy.length := by omega
            rw [List.getD_eq_getElem?_getD, List.getElem?_eq_getElem hl]
            have := hyb _ (List.getElem_mem hl)
            simp only [Option.getD_some]
            omega
          · have hl : (-x - 1).toNat < sy.length := by omega
            rw [List.getD_eq_getElem?_getD, List.getElem?_eq_getElem hl]
            have := hyb _ (List.getElem_mem hl)
            simp only [Option.getD_some]
            omega
        unfold trueM
        rw [List.any_eq_true]
        exact ⟨_, hmem, by rw [hw', litT_app him]; exact hxt⟩
      exact ⟨h.learn (by omega) hT, fun v h1 h2 _ => hT v h1 h2⟩
    · cases hs
  rw [stepC_5 k1 k2 k3 k4] at hs
  cases hs
theorem sound_run {e : EnM} (hcl0 : ∀ c ∈ e.cl0, withinM e.v0 c = true) (hv0 : 0 ≤ e.v0) : ∀ (L : List StepM) {B : Nat} {s : StM} {K : List StepM}, SoundC e s K → StOk B s → (∀ t ∈ L, t.lits.length ≤ 900) → (runC e s L).2 = L.length →
    (∀ v : List Bool, (v.length : Int) = e.v0 → allM v e.cl0 = true → extOk (extN v K) L = true) ∧ ((runC e s L).1.ref = true → ∀ v : List Bool, (v.length : Int) = e.v0 → allM v e.cl0 = true → False)
  | [], _, s, K, h, _, _, _ => by rw [runC_nil]; exact ⟨fun _ _ _ => rfl, h.noref⟩
  | t :: L, B, s, K, h, hok, hl, hn => by
    cases hs : stepC e s t with
    | none => rw [runC, hs] at hn; simp at hn
    | some u =>
      rw [runC_cons hs] at hn ⊢
      obtain ⟨hu, hT⟩ := sound_step hcl0 hv0 h hok hs
      obtain ⟨i1, i2⟩ := sound_run (e := e) hcl0 hv0 L hu (hok.step (hl t (by simp)) hs) (fun t ht => hl t (by simp [ht])) (by simp at hn; exact hn)
      refine ⟨fun v h1 h2 => ?_, i2⟩
      have h5 := i1 v h1 h2
      rw [extN_app] at h5
      unfold extOk
      by_cases k3 : t.kind = 3
      · rw [if_pos k3] at h5 ⊢
        exact h5
      · rw [if_neg k3] at h5 ⊢
        split
        · rename_i hk
          rw [hT v h1 h2 hk, h5]; rfl
        · exact h5
end Go.Ab
