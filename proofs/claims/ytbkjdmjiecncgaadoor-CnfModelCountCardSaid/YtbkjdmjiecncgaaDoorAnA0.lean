/- Chapter 19: circuits, in plain terms. -/
import Derived.Test.YtbkjdmjiecncgaaDoorAnA
import Derived.Test.YtbkjdmjiecncgaaDoorAbL3
set_option linter.unusedSimpArgs false
set_option linter.unusedVariables false
namespace Go.Ab
open Go Go.Proofs
set_option maxRecDepth 20000
set_option maxHeartbeats 4000000
structure GateM where
  k : Int
  a : Int
  b : Int
deriving DecidableEq
abbrev encG (g : GateM) : List PV := [.lit (.int .i64 g.k), .lit (.int .i64 g.a), .lit (.int .i64 g.b)]
abbrev gatesV (l : List GateM) : PV := .slice 3 (l.map encG)
abbrev crc (l : List GateM) : AV := .agg [.pv (gatesV l)]
def notR (r : Int) : Int := if r < 0 then -1 else if r % 2 = 0 then r + 1 else r - 1
def findG (gs : List GateM) (g : GateM) : Int := if gs.any (fun h => decide (h = g)) = true then (gs.findIdx (fun h => decide (h = g)) : Nat) else -1
def shareG (gs : List GateM) (g : GateM) : List GateM × Int := if 0 ≤ findG gs g then (gs, 2 * findG gs g) else if 20000 ≤ gs.length then (gs, -1) else (gs ++ [g], 2 * gs.length)
def inputG (gs : List GateM) (v : Int) : List GateM × Int := if v < 1 ∨ 20000 < v then (gs, -1) else shareG gs ⟨1, v, 0⟩
def andG (gs : List GateM) (a b : Int) : List GateM × Int :=
  if a < 0 ∨ b < 0 ∨ 2 * (gs.length : Int) ≤ a ∨ 2 * (gs.length : Int) ≤ b then (gs, -1) else if a = 1 ∨ b = 1 ∨ b = notR a then (gs, 1) else if a = 0 then (gs, b) else if b = 0 ∨ a = b then (gs, a) else shareG gs ⟨2, min a b, max a b⟩
def orG (gs : List GateM) (a b : Int) : List GateM × Int := ((andG gs (notR a) (notR b)).1, notR (andG gs (notR a) (notR b)).2)
def iffG (gs : List GateM) (a b : Int) : List GateM × Int :=
  andG (andG (andG gs a (notR b)).1 (notR a) b).1 (notR (andG gs a (notR b)).2) (notR (andG (andG gs a (notR b)).1 (notR a) b).2)
structure StepG where
  k : Int
  a : Int
  b : Int
def pickG (refs : List Int) (n : Int) : Int := if n % 2 = 1 then notR (if 0 < n / 2 % ((refs.length : Int) + 1) then refs.getD (n / 2 % ((refs.length : Int) + 1) - 1).toNat 0 else 0) else (if 0 < n / 2 % ((refs.length : Int) + 1) then refs.getD (n / 2 % ((refs.length : Int) + 1) - 1).toNat 0 else 0)
def doG (gs : List GateM) (refs : List Int) (s : StepG) : List GateM × Int :=
  if s.k % 4 = 0 then inputG gs (s.a % 8 + 1) else if s.k % 4 = 1 then andG gs (pickG refs s.a) (pickG refs s.b) else if s.k % 4 = 2 then orG gs (pickG refs s.a) (pickG refs s.b) else iffG gs (pickG refs s.a) (pickG refs s.b)
def stepG (p : List GateM × List Int) (s : StepG) : List GateM × List Int := ((doG p.1 p.2 s).1, p.2 ++ [(doG p.1 p.2 s).2])
def buildG (l : List StepG) : List GateM × List Int := l.foldl stepG ([⟨0, 0, 0⟩], [])
theorem buildG_snoc {l : List StepG} {i : Nat} (hi : i < l.length) : buildG (l.take (i + 1)) = stepG (buildG (l.take i)) l[i] := by
  unfold buildG
  rw [take_succ_get hi, List.foldl_append]; rfl
/-- a gate in its place is well formed. -/
def gOk (g : GateM) (i : Nat) : Prop := (g.k = 1 ∧ 1 ≤ g.a ∧ g.a ≤ 8 ∧ g.b = 0) ∨ (g.k = 2 ∧ 2 ≤ g.a ∧ g.a < g.b ∧ g.b < 2 * (i : Int) ∧ g.a / 2 ≠ g.b / 2)
structure CirOk (gs : List GateM) : Prop where
  zero : gs[0]? = some ⟨0, 0, 0⟩
  ok : ∀ (i : Nat) (h : i < gs.length), i ≠ 0 → gOk gs[i] i
def RefOk (gs : List GateM) (r : Int) : Prop := 0 ≤ r ∧ r < 2 * (gs.length : Int)
theorem CirOk.pos {gs : List GateM} (h : CirOk gs) : 0 < gs.length := (List.getElem?_eq_some_iff.1 h.zero).1
theorem notR_ok {gs : List GateM} {r : Int} (h : RefOk gs r) : RefOk gs (notR r) := by
  unfold notR RefOk at *
  rw [if_neg (by omega)]
  split <;> omega
theorem RefOk.mono {gs gs' : List GateM} {r : Int} (h : RefOk gs r) (hl : gs.length ≤ gs'.length) : RefOk gs' r := by unfold RefOk at *; omega
/-- grown by so many gates, and a reference in it. -/
structure Grown (gs : List GateM) (n : Nat) (p : List GateM × Int) : Prop where
  cir : CirOk p.1
  ref : RefOk p.1 p.2
  le : gs.length ≤ p.1.length
  len : p.1.length ≤ gs.length + n
theorem findG_range {gs : List GateM} {g : GateM} : findG gs g = -1 ∨ (0 ≤ findG gs g ∧ findG gs g < gs.length) := by
  unfold findG
  split
  · rename_i h
    have : gs.findIdx (fun h => decide (h = g)) < gs.length := by
      rw [List.findIdx_lt_length]
      obtain ⟨x, hx, h⟩ := List.any_eq_true.1 h
      exact ⟨x, hx, h⟩
    right; omega
  · exact .inl rfl
theorem share_ok {gs : List GateM} {g : GateM} (hc : CirOk gs) (hg : gOk g gs.length) (hl : gs.length < 20000) : Grown gs 1 (shareG gs g) := by
  unfold shareG
  have hr := findG_range (gs := gs) (g := g)
  split
  · exact ⟨hc, ⟨by show 0 ≤ 2 * findG gs g; omega, by show 2 * findG gs g < 2 * (gs.length : Int); omega⟩, Nat.le_refl _, Nat.le_succ _⟩
  · rw [if_neg (by omega)]
    refine ⟨⟨by show (gs ++ [g])[0]? = _; rw [List.getElem?_append_left hc.pos]; exact hc.zero, fun i hi h0 => ?_⟩, ⟨by show 0 ≤ 2 * (gs.length : Int); omega, by show 2 * (gs.length : Int) < 2 * ((gs ++ [g]).length : Nat); rw [List.length_append]; simp only [List.length_cons, List.length_nil]; omega⟩, by simp, by simp⟩
    have hi' : i < (gs ++ [g]).length := hi
    show gOk (gs ++ [g])[i] i
    by_cases h : i < gs.length
    · rw [List.getElem_append_left h]; exact hc.ok i h h0
    · have : i = gs.length := by simp at hi'; omega
      subst this
      rw [List.getElem_append_right (Nat.le_refl _)]
      simpa using hg
theorem input_ok {gs : List GateM} {v : Int} (hc : CirOk gs) (hv : 1 ≤ v ∧ v ≤ 8) (hl : gs.length < 20000) : Grown gs 1 (inputG gs v) := by
  unfold inputG
  rw [if_neg (by omega)]
  exact share_ok hc (.inl ⟨rfl, hv.1, hv.2, rfl⟩) hl
theorem and_ok {gs : List GateM} {a b : Int} (hc : CirOk gs) (ha : RefOk gs a) (hb : RefOk gs b) (hl : gs.length < 20000) : Grown gs 1 (andG gs a b) := by
  have hp := hc.pos
  unfold andG
  have ha' := ha
  have hb' := hb
  unfold RefOk at ha' hb'
  rw [if_neg (by omega)]
  split
  · exact ⟨hc, ⟨by show (0 : Int) ≤ 1; omega, by show (1 : Int) < 2 * (gs.length : Int); omega⟩, Nat.le_refl _, Nat.le_succ _⟩
  · rename_i h1
    split
    · exact ⟨hc, hb, Nat.le_refl _, Nat.le_succ _⟩
    · split
      · exact ⟨hc, ha, Nat.le_refl _, Nat.le_succ _⟩
      · rename_i h2 h3
        have hn : b ≠ notR a := fun h => h1 (.inr (.inr h))
        unfold notR at hn
        rw [if_neg (by omega)] at hn
        refine share_ok hc (.inr ⟨rfl, ?_, ?_, ?_, ?_⟩) hl
        · show 2 ≤ min a b; omega
        · show min a b < max a b; omega
        · show max a b < _; omega
        · show min a b / 2 ≠ max a b / 2
          split at hn <;> omega
theorem or_ok {gs : List GateM} {a b : Int} (hc : CirOk gs) (ha : RefOk gs a) (hb : RefOk gs b) (hl : gs.length < 20000) : Grown gs 1 (orG gs a b) := by
  have h := and_ok hc (notR_ok ha) (notR_ok hb) hl
  exact ⟨h.cir, notR_ok h.ref, h.le, h.len⟩
theorem iff_ok {gs : List GateM} {a b : Int} (hc : CirOk gs) (ha : RefOk gs a) (hb : RefOk gs b) (hl : gs.length < 19000) : Grown gs 3 (iffG gs a b) := by
  have h1 := and_ok hc ha (notR_ok hb) (by omega)
  have h2 := and_ok h1.cir (notR_ok (ha.mono h1.le)) (hb.mono h1.le) (by have := h1.len; omega)
  have h3 := and_ok h2.cir (notR_ok (h1.ref.mono h2.le)) (notR_ok h2.ref) (by have := h1.len; have := h2.len; omega)
  exact ⟨h3.cir, h3.ref, by have := h1.le; have := h2.le; have := h3.le; unfold iffG; omega, by have := h1.len; have := h2.len; have := h3.len; unfold iffG; omega⟩
theorem pick_ok {gs : List GateM} {refs : List Int} {n : Int} (hc : CirOk gs) (hr : ∀ r ∈ refs, RefOk gs r) (hn : 0 ≤ n) : RefOk gs (pickG refs n) := by
  have hp := hc.pos
  have key : RefOk gs (if 0 < n / 2 % ((refs.length : Int) + 1) then refs.getD (n / 2 % ((refs.length : Int) + 1) - 1).toNat 0 else 0) := by
    have q1 : n / 2 % ((refs.length : Int) + 1) < (refs.length : Int) + 1 := Int.emod_lt_of_pos _ (by omega)
    split
    · rw [List.getD_eq_getElem?_getD, List.getElem?_eq_getElem (by omega)]
      exact hr _ (List.getElem_mem _)
    · unfold RefOk; omega
  unfold pickG
  split
  · exact notR_ok key
  · exact key
structure BuiltOk (n : Nat) (p : List GateM × List Int) : Prop where
  cir : CirOk p.1
  refs : ∀ r ∈ p.2, RefOk p.1 r
  len : p.1.length ≤ 1 + 3 * n
  rl : p.2.length = n
theorem do_ok {gs : List GateM} {refs : List Int} {s : StepG} (hc : CirOk gs) (hr : ∀ r ∈ refs, RefOk gs r) (hs : 0 ≤ s.k ∧ 0 ≤ s.a ∧ 0 ≤ s.b) (hl : gs.length < 19000) : Grown gs 3 (doG gs refs s) := by
  have m : ∀ {p}, Grown gs 1 p → Grown gs 3 p := fun h => ⟨h.cir, h.ref, h.le, by have := h.len; omega⟩
  have ha := pick_ok hc hr hs.2.1
  have hb := pick_ok hc hr hs.2.2
  unfold doG
  split
  · exact m (input_ok hc (by omega) (by omega))
  · split
    · exact m (and_ok hc ha hb (by omega))
    · split
      · exact m (or_ok hc ha hb (by omega))
      · exact iff_ok hc ha hb (by omega)
theorem build_ok {l : List StepG} (hs : ∀ s ∈ l, 0 ≤ s.k ∧ 0 ≤ s.a ∧ 0 ≤ s.b) (hl : l.length ≤ 1000) : ∀ i, i ≤ l.length → BuiltOk i (buildG (l.take i))
  | 0, _ => by
    have e : buildG (l.take 0) = ([⟨0, 0, 0⟩], []) := rfl
    rw [e]
    exact ⟨⟨rfl, fun i hi h0 => by have : i < 1 := hi; omega⟩, (by intro r h; cases h), Nat.le_refl _, rfl⟩
  | i + 1, hi => by
    have ih := build_ok hs hl i (by omega)
    rw [buildG_snoc (by omega)]
    generalize buildG (l.take i) = p at ih ⊢
    have hg := do_ok ih.cir ih.refs (hs _ (List.getElem_mem (show i < l.length by omega))) (by have := ih.len; omega)
    refine ⟨hg.cir, fun r hr => ?_, by have := hg.len; have := ih.len; show (doG p.1 p.2 _).1.length ≤ _; omega, by show (p.2 ++ [_]).length = _; rw [List.length_append, ih.rl]; rfl⟩
    rcases List.mem_append.1 hr with h | h
    · exact (ih.refs r h).mono hg.le
    · simp at h; subst h; exact hg.ref
/-! ### values -/
def inV (vals : List Bool) (a : Int) : Bool := vals.getD (a - 1).toNat false
def refV (done : List Bool) (r : Int) : Bool := done.getD (r / 2).toNat false == decide (r % 2 = 0)
def gateV (vals done : List Bool) (g : GateM) : Bool := if g.k = 1 then inV vals g.a else if g.k = 2 then refV done g.a && refV done g.b else true
def doneG (gs : List GateM) (vals : List Bool) : Nat → List Bool
  | 0 => []
  | i + 1 => doneG gs vals i ++ [gateV vals (doneG gs vals i) (gs.getD i ⟨0, 0, 0⟩)]
theorem doneG_len (gs : List GateM) (vals : List Bool) : ∀ i, (doneG gs vals i).length = i
  | 0 => rfl
  | i + 1 => by rw [doneG, List.length_append, doneG_len gs vals i]; rfl
/-- a gate's value. -/
def valG (gs : List GateM) (vals : List Bool) (i : Nat) : Bool := (doneG gs vals (i + 1)).getD i false
theorem doneG_get (gs : List GateM) (vals : List Bool) : ∀ (m i : Nat), i < m → (doneG gs vals m).getD i false = valG gs vals i
  | 0, i, h => by omega
  | m + 1, i, h => by
    by_cases e : i = m
    · subst e; rfl
    · rw [doneG, List.getD_eq_getElem?_getD, List.getElem?_append_left (by rw [doneG_len]; omega), ← List.getD_eq_getElem?_getD, doneG_get gs vals m i (by omega)]
def evalG (gs : List GateM) (vals : List Bool) (r : Int) : Bool := valG gs vals (r / 2).toNat == decide (r % 2 = 0)
theorem refV_done (gs : List GateM) (vals : List Bool) {m : Nat} {r : Int} (h0 : 0 ≤ r) (h : r < 2 * (m : Int)) : refV (doneG gs vals m) r = evalG gs vals r := by
  unfold refV evalG
  rw [doneG_get gs vals m _ (by omega)]
theorem valG_eq (gs : List GateM) (vals : List Bool) (i : Nat) : valG gs vals i = gateV vals (doneG gs vals i) (gs.getD i ⟨0, 0, 0⟩) := by
  unfold valG
  rw [doneG, List.getD_eq_getElem?_getD, List.getElem?_append_right (by rw [doneG_len]; omega), doneG_len]
  simp
theorem valG_and {gs : List GateM} (hc : CirOk gs) (vals : List Bool) {i : Nat} (hi : i < gs.length) (hk : gs[i].k = 2) : valG gs vals i = (evalG gs vals gs[i].a && evalG gs vals gs[i].b) := by
  have hg : gs.getD i ⟨0, 0, 0⟩ = gs[i] := by rw [List.getD_eq_getElem?_getD, List.getElem?_eq_getElem hi]; rfl
  have h0 : i ≠ 0 := fun e => by
    subst e
    have := hc.zero
    rw [List.getElem?_eq_getElem hi] at this
    rw [Option.some.inj this] at hk
    simp at hk
  rcases hc.ok i hi h0 with h | h
  · omega
  · rw [valG_eq, hg, gateV, if_neg (by omega), if_pos hk, refV_done gs vals (by omega) (by omega), refV_done gs vals (by omega) (by omega)]
theorem valG_in {gs : List GateM} (vals : List Bool) {i : Nat} (hi : i < gs.length) (hk : gs[i].k = 1) : valG gs vals i = inV vals gs[i].a := by
  have hg : gs.getD i ⟨0, 0, 0⟩ = gs[i] := by rw [List.getD_eq_getElem?_getD, List.getElem?_eq_getElem hi]; rfl
  rw [valG_eq, hg, gateV, if_pos hk]
end Go.Ab
