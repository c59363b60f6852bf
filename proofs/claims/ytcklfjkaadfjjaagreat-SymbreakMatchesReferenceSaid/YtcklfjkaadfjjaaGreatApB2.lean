/- Chapters 05 to 07: relations, states, models as data; equality, the next state. -/
import Derived.Test.YtcklfjkaadfjjaaGreatRows
import Derived.Test.YtcklfjkaadfjjaaGreatAbZ
import Derived.Test.YtcklfjkaadfjjaaGreatAbL3
import Derived.Test.YtcklfjkaadfjjaaGreatAbL2
import Derived.Shelf.Small.Bits
import Derived.Shelf.Small.Wraps
import Derived.Shelf.Strconv.Itoa0
import Derived.Shelf.Sort.Plain
import Derived.Shelf.Slices.Reverse
import Derived.Shelf.Slices.Equal
import Derived.Ground.Names2Prog
import Derived.Shelf.Slices.Clone
import Derived.Shelf.Slices.SearchI
import Derived.Shelf.Slices.Cells
import Derived.Shelf.Slices.In.SortNone
import Derived.Shelf.Slices.Empties
import Derived.Shelf.Slices.Empties2
import Derived.Ground.SlgnProg
import Derived.Shelf.SlicesE.Reverse
import Derived.Shelf.SlicesE.Clone
import Derived.Test.YtcklfjkaadfjjaaGreatProg
set_option linter.unusedSimpArgs false
set_option linter.unusedVariables false
namespace Go.Ab
open Go Go.Proofs
set_option maxRecDepth 20000
set_option maxHeartbeats 2000000
attribute [local irreducible] AW AOps thenD inBlockD
theorem take_succ_get {α : Type} {l : List α} {k : Nat} (hk : k < l.length) : l.take (k + 1) = l.take k ++ [l[k]] := List.take_succ_eq_append_getElem hk
theorem take_all {α : Type} {l : List α} {k : Nat} (h : ¬ (k : Int) < (l.length : Int)) : l.take k = l := List.take_of_length_le (by omega)
abbrev RelM := Int × List Int
abbrev relA (r : RelM) : AV := .agg [litI r.1, .pv (ints r.2)]
theorem eq_at_end {α : Type} {a b : List α} {k : Nat} (hl : a.length = b.length) (h : a.take k = b.take k) (hk : ¬ k < a.length) : a = b := by
  rwa [List.take_of_length_le (by omega), List.take_of_length_le (by omega)] at h
theorem eq_step {α : Type} {a b : List α} {k : Nat} (h : a.take k = b.take k) (ha : k < a.length) (hb : k < b.length) (e : a[k] = b[k]) : a.take (k + 1) = b.take (k + 1) := by
  rw [take_succ_get ha, take_succ_get hb, h, e]
theorem rEqual_fn (a b : RelM) : Fn Tryz.prog 122 [relA a, relA b] (litB (decide (a = b))) := by
  obtain ⟨c, a⟩ := a
  obtain ⟨d, b⟩ := b
  by_cases h1 : c = d
  · subst h1
    have he : decide ((c, a) = (c, b)) = decide (a = b) := by simp
    rw [he]
    refine Fn.enter (n := 38) Tryz.func122 rfl rfl rfl rfl rfl (by decide) fun g hro_ hwt_ => ?_; (try refine nz ?_)
    refine AW.len_agg 0 1 rfl rfl fun hlen => ?_
    simp only at hlen
    by_cases hab : a.length = b.length
    · (refine Q164 ?_; refine Q234 ?_; refine Q75 ?_)
      refine AW.loop (fun (k : Nat) => { n := 38, env := [(2, .ptr 0 0), (3, .ptr 1 0), (5, litI k)], objs := [(0, some (.box [litI c, .pv (ints a)])), (1, some (.box [litI c, .pv (ints b)]))], nx := 2 }) (fun k => k ≤ a.length ∧ a.take k = b.take k) (fun k => a.length - k) 0 ?_ ?_ ?_
      · simp
      · exact weak rfl (by (refine ⟨.eq rfl rfl, ?_⟩; (iterate 2 refine ⟨.eq rfl rfl, ?_⟩); exact trivial)) (by (refine ⟨.box _ rfl ?_, ?_⟩; (iterate 2 refine ⟨.eq rfl rfl, ?_⟩); exact trivial; refine ⟨.box _ rfl ?_, ?_⟩; (iterate 2 refine ⟨.eq rfl rfl, ?_⟩); (iterate 2 exact trivial))) rfl
      rintro k ⟨hk, hno⟩
      by_cases hlt : k < a.length
      · have hlt2 : k < b.length := by omega
        (refine Q98 ?_; refine Q39 ?_; refine Q86 ?_; refine Q287 ?_; refine zo ?_; refine AW.regionQ rfl rfl (by kernel_rfl) (by with_reducible assumption) ?_; refine Q39 ?_; refine zm ?_; (focus ((with_reducible apply AOps.index_map); (iterate 7 exact rfl); rotate_left; omega)); refine zr ?_; refine Q39 ?_; refine zm ?_; (focus ((with_reducible apply AOps.index_map); (iterate 7 exact rfl); rotate_left; omega)); refine Q325 ?_; refine zd ?_; (focus ((with_reducible apply AW.condD); exact rfl; exact rfl; all_goals intro hc_)); refine Q4 ?_; refine Q200 ?_; (all_goals skip); rotate_left; refine AW.skip ?_; refine Q29 ?_; (all_goals skip); rotate_left)
        · have hne : ¬ a = b := by rintro rfl; exact hc_ rfl
          (apply ends_ret; (exact Res.one (.tmp rfl rfl)); (refine Le.litB ?_; (rw [eq_comm, decide_eq_false_iff_not]; exact hne)))
        · exact ⟨k + 1, ⟨by omega, eq_step hno hlt hlt2 (Decidable.not_not.1 hc_)⟩, by omega, weak rfl (by (refine ⟨.eq rfl rfl, ?_⟩; (iterate 2 refine ⟨.eq rfl rfl, ?_⟩); exact trivial)) (by (refine ⟨.box _ rfl ?_, ?_⟩; (iterate 2 refine ⟨.eq rfl rfl, ?_⟩); exact trivial; refine ⟨.box _ rfl ?_, ?_⟩; (iterate 2 refine ⟨.eq rfl rfl, ?_⟩); (iterate 2 exact trivial))) rfl⟩
      · have he : a = b := eq_at_end hab hno hlt
        (refine Q98 ?_; refine Q39 ?_; refine Q86 ?_; refine zd ?_; refine Q189 ?_)
        (apply ends_ret; (exact Res.one (.tmp rfl rfl)); (refine Le.litB ?_; (rw [eq_comm, decide_eq_true_iff]; exact he)))
    · have hne : ¬ a = b := by rintro rfl; exact hab rfl
      (refine Q164 ?_; refine Q83 ?_; refine Q57 ?_)
      (apply ends_ret; (exact Res.one (.tmp rfl rfl)); (refine Le.litB ?_; (rw [eq_comm, decide_eq_false_iff_not]; exact hne)))
  · have he : decide ((c, a) = (d, b)) = false := by simp [h1]
    rw [he]
    refine Fn.enter (n := 38) Tryz.func122 rfl rfl rfl rfl rfl (by decide) fun g hro_ hwt_ => ?_; (try refine nz ?_)
    (refine Q105 ?_; refine Q61 ?_; (iterate 2 refine Q115 ?_); refine AOps.neq rfl rfl rfl rfl rfl ?_; refine zm ?_; (iterate 7 refine AOps.guardFn rfl rfl rfl rfl rfl rfl (by with_reducible assumption) ?_); refine zT ?_; refine Q216 ?_; refine Q57 ?_)
    (apply ends_ret; (exact Res.one (.tmp rfl rfl)); (refine Le.litB ?_; (rfl)))
end Go.Ab
/- Chapter 24 (as chapter 19): circuits, in plain terms. -/
namespace Go.Ab
open Go Go.Proofs
set_option maxRecDepth 20000
set_option maxHeartbeats 4000000
structure GateM where
  k : Int
  a : Int
  b : Int
deriving DecidableEq
abbrev encG (g : GateM) : List PV := [.lit (.int .i64 g.k), .lit (.int .i64 g.a), .lit (.int .i64 g.b)]
abbrev gatesV (l : List GateM) : PV := .slice 3 (l.map encG)
abbrev crc (l : List GateM) : AV := .agg [.pv (gatesV l)]
def notR (r : Int) : Int := if r < 0 then -1 else if r % 2 = 0 then r + 1 else r - 1
def findG (gs : List GateM) (g : GateM) : Int := if gs.any (fun h => decide (h = g)) = true then (gs.findIdx (fun h => decide (h = g)) : Nat) else -1
def shareG (gs : List GateM) (g : GateM) : List GateM × Int := if 0 ≤ findG gs g then (gs, 2 * findG gs g) else if 20000 ≤ gs.length then (gs, -1) else (gs ++ [g], 2 * gs.length)
def inputG (gs : List GateM) (v : Int) : List GateM × Int := if v < 1 ∨ 20000 < v then (gs, -1) else shareG gs ⟨1, v, 0⟩
def andG (gs : List GateM) (a b : Int) : List GateM × Int :=
  if a < 0 ∨ b < 0 ∨ 2 * (gs.length : Int) ≤ a ∨ 2 * (gs.length : Int) ≤ b then (gs, -1) else if a = 1 ∨ b = 1 ∨ b = notR a then (gs, 1) else if a = 0 then (gs, b) else if b = 0 ∨ a = b then (gs, a) else shareG gs ⟨2, min a b, max a b⟩
def orG (gs : List GateM) (a b : Int) : List GateM × Int := ((andG gs (notR a) (notR b)).1, notR (andG gs (notR a) (notR b)).2)
def iffG (gs : List GateM) (a b : Int) : List GateM × Int :=
  andG (andG (andG gs a (notR b)).1 (notR a) b).1 (notR (andG gs a (notR b)).2) (notR (andG (andG gs a (notR b)).1 (notR a) b).2)
structure StepG where
  k : Int
  a : Int
  b : Int
def pickG (refs : List Int) (n : Int) : Int := if n % 2 = 1 then notR (if 0 < n / 2 % ((refs.length : Int) + 1) then refs.getD (n / 2 % ((refs.length : Int) + 1) - 1).toNat 0 else 0) else (if 0 < n / 2 % ((refs.length : Int) + 1) then refs.getD (n / 2 % ((refs.length : Int) + 1) - 1).toNat 0 else 0)
def doG (gs : List GateM) (refs : List Int) (s : StepG) : List GateM × Int :=
  if s.k % 4 = 0 then inputG gs (s.a % 8 + 1) else if s.k % 4 = 1 then andG gs (pickG refs s.a) (pickG refs s.b) else if s.k % 4 = 2 then orG gs (pickG refs s.a) (pickG refs s.b) else iffG gs (pickG refs s.a) (pickG refs s.b)
def stepG (p : List GateM × List Int) (s : StepG) : List GateM × List Int := ((doG p.1 p.2 s).1, p.2 ++ [(doG p.1 p.2 s).2])
def buildG (l : List StepG) : List GateM × List Int := l.foldl stepG ([⟨0, 0, 0⟩], [])
theorem buildG_snoc {l : List StepG} {i : Nat} (hi : i < l.length) : buildG (l.take (i + 1)) = stepG (buildG (l.take i)) l[i] := by
  unfold buildG
  rw [take_succ_get hi, List.foldl_append]; rfl
def gOk (g : GateM) (i : Nat) : Prop := (g.k = 1 ∧ 1 ≤ g.a ∧ g.a ≤ 1000 ∧ g.b = 0) ∨ (g.k = 2 ∧ 2 ≤ g.a ∧ g.a < g.b ∧ g.b < 2 * (i : Int) ∧ g.a / 2 ≠ g.b / 2)
structure CirOk (gs : List GateM) : Prop where
  zero : gs[0]? = some ⟨0, 0, 0⟩
  ok : ∀ (i : Nat) (h : i < gs.length), i ≠ 0 → gOk gs[i] i
def RefOk (gs : List GateM) (r : Int) : Prop := 0 ≤ r ∧ r < 2 * (gs.length : Int)
theorem CirOk.pos {gs : List GateM} (h : CirOk gs) : 0 < gs.length := (List.getElem?_eq_some_iff.1 h.zero).1
theorem notR_ok {gs : List GateM} {r : Int} (h : RefOk gs r) : RefOk gs (notR r) := by
  unfold notR RefOk at *
  rw [if_neg (by omega)]
  split <;> omega
theorem RefOk.mono {gs gs' : List GateM} {r : Int} (h : RefOk gs r) (hl : gs.length ≤ gs'.length) : RefOk gs' r := by unfold RefOk at *; omega
structure Grown (gs : List GateM) (n : Nat) (p : List GateM × Int) : Prop where
  cir : CirOk p.1
  ref : RefOk p.1 p.2
  le : gs.length ≤ p.1.length
  len : p.1.length ≤ gs.length + n
theorem findG_range {gs : List GateM} {g : GateM} : findG gs g = -1 ∨ (0 ≤ findG gs g ∧ findG gs g < gs.length) := by
  unfold findG
  split
  · rename_i h
    have : gs.findIdx (fun h => decide (h = g)) < gs.length := by
      rw [List.findIdx_lt_length]
      obtain ⟨x, hx, h⟩ := List.any_eq_true.1 h
      exact ⟨x, hx, h⟩
    right; omega
  · exact .inl rfl
theorem share_ok {gs : List GateM} {g : GateM} (hc : CirOk gs) (hg : gOk g gs.length) (hl : gs.length < 20000) : Grown gs 1 (shareG gs g) := by
  unfold shareG
  have hr := findG_range (gs := gs) (g := g)
  split
  · exact ⟨hc, ⟨by show 0 ≤ 2 * findG gs g; omega, by show 2 * findG gs g < 2 * (gs.length : Int); omega⟩, Nat.le_refl _, Nat.le_succ _⟩
  · rw [if_neg (by omega)]
    refine ⟨⟨by show (gs ++ [g])[0]? = _; rw [List.getElem?_append_left hc.pos]; exact hc.zero, fun i hi h0 => ?_⟩, ⟨by show 0 ≤ 2 * (gs.length : Int); omega, by show 2 * (gs.length : Int) < 2 * ((gs ++ [g]).length : Nat); rw [List.length_append]; simp only [List.length_cons, List.length_nil]; omega⟩, by simp, by simp⟩
    have hi' : i < (gs ++ [g]).length := hi
    show gOk (gs ++ [g])[i] i
    by_cases h : i < gs.length
    · rw [List.getElem_append_left h]; exact hc.ok i h h0
    · have : i = gs.length := by simp at hi'; omega
      subst this
      rw [List.getElem_append_right (Nat.le_refl _)]
      simpa using hg
theorem input_ok {gs : List GateM} {v : Int} (hc : CirOk gs) (hv : 1 ≤ v ∧ v ≤ 1000) (hl : gs.length < 20000) : Grown gs 1 (inputG gs v) := by
  unfold inputG
  rw [if_neg (by omega)]
  exact share_ok hc (.inl ⟨rfl, hv.1, hv.2, rfl⟩) hl
theorem and_ok {gs : List GateM} {a b : Int} (hc : CirOk gs) (ha : RefOk gs a) (hb : RefOk gs b) (hl : gs.length < 20000) : Grown gs 1 (andG gs a b) := by
  have hp := hc.pos
  unfold andG
  have ha' := ha
  have hb' := hb
  unfold RefOk at ha' hb'
  rw [if_neg (by omega)]
  split
  · exact ⟨hc, ⟨by show (0 : Int) ≤ 1; omega, by show (1 : Int) < 2 * (gs.length : Int); omega⟩, Nat.le_refl _, Nat.le_succ _⟩
  · rename_i h1
    split
    · exact ⟨hc, hb, Nat.le_refl _, Nat.le_succ _⟩
    · split
      · exact ⟨hc, ha, Nat.le_refl _, Nat.le_succ _⟩
      · rename_i h2 h3
        have hn : b ≠ notR a := fun h => h1 (.inr (.inr h))
        unfold notR at hn
        rw [if_neg (by omega)] at hn
        refine share_ok hc (.inr ⟨rfl, ?_, ?_, ?_, ?_⟩) hl
        · show 2 ≤ min a b; omega
        · show min a b < max a b; omega
        · show max a b < _; omega
        · show min a b / 2 ≠ max a b / 2
          split at hn <;> omega
theorem or_ok {gs : List GateM} {a b : Int} (hc : CirOk gs) (ha : RefOk gs a) (hb : RefOk gs b) (hl : gs.length < 20000) : Grown gs 1 (orG gs a b) := by
  have h := and_ok hc (notR_ok ha) (notR_ok hb) hl
  exact ⟨h.cir, notR_ok h.ref, h.le, h.len⟩
theorem iff_ok {gs : List GateM} {a b : Int} (hc : CirOk gs) (ha : RefOk gs a) (hb : RefOk gs b) (hl : gs.length < 19000) : Grown gs 3 (iffG gs a b) := by
  have h1 := and_ok hc ha (notR_ok hb) (by omega)
  have h2 := and_ok h1.cir (notR_ok (ha.mono h1.le)) (hb.mono h1.le) (by have := h1.len; omega)
  have h3 := and_ok h2.cir (notR_ok (h1.ref.mono h2.le)) (notR_ok h2.ref) (by have := h1.len; have := h2.len; omega)
  exact ⟨h3.cir, h3.ref, by have := h1.le; have := h2.le; have := h3.le; unfold iffG; omega, by have := h1.len; have := h2.len; have := h3.len; unfold iffG; omega⟩
theorem pick_ok {gs : List GateM} {refs : List Int} {n : Int} (hc : CirOk gs) (hr : ∀ r ∈ refs, RefOk gs r) (hn : 0 ≤ n) : RefOk gs (pickG refs n) := by
  have hp := hc.pos
  have key : RefOk gs (if 0 < n / 2 % ((refs.length : Int) + 1) then refs.getD (n / 2 % ((refs.length : Int) + 1) - 1).toNat 0 else 0) := by
    have q1 : n / 2 % ((refs.length : Int) + 1) < (refs.length : Int) + 1 := Int.emod_lt_of_pos _ (by omega)
    split
    · rw [List.getD_eq_getElem?_getD, List.getElem?_eq_getElem (by omega)]
      exact hr _ (List.getElem_mem _)
    · unfold RefOk; omega
  unfold pickG
  split
  · exact notR_ok key
  · exact key
structure BuiltOk (n : Nat) (p : List GateM × List Int) : Prop where
  cir : CirOk p.1
  refs : ∀ r ∈ p.2, RefOk p.1 r
  len : p.1.length ≤ 1 + 3 * n
  rl : p.2.length = n
theorem do_ok {gs : List GateM} {refs : List Int} {s : StepG} (hc : CirOk gs) (hr : ∀ r ∈ refs, RefOk gs r) (hs : 0 ≤ s.k ∧ 0 ≤ s.a ∧ 0 ≤ s.b) (hl : gs.length < 19000) : Grown gs 3 (doG gs refs s) := by
  have m : ∀ {p}, Grown gs 1 p → Grown gs 3 p := fun h => ⟨h.cir, h.ref, h.le, by have := h.len; omega⟩
  have ha := pick_ok hc hr hs.2.1
  have hb := pick_ok hc hr hs.2.2
  unfold doG
  split
  · exact m (input_ok hc (by omega) (by omega))
  · split
    · exact m (and_ok hc ha hb (by omega))
    · split
      · exact m (or_ok hc ha hb (by omega))
      · exact iff_ok hc ha hb (by omega)
theorem build_ok {l : List StepG} (hs : ∀ s ∈ l, 0 ≤ s.k ∧ 0 ≤ s.a ∧ 0 ≤ s.b) (hl : l.length ≤ 1000) : ∀ i, i ≤ l.length → BuiltOk i (buildG (l.take i))
  | 0, _ => by
    have e : buildG (l.take 0) = ([⟨0, 0, 0⟩], []) := rfl
    rw [e]
    exact ⟨⟨rfl, fun i hi h0 => by have : i < 1 := hi; omega⟩, (by intro r h; cases h), Nat.le_refl _, rfl⟩
  | i + 1, hi => by
    have ih := build_ok hs hl i (by omega)
    rw [buildG_snoc (by omega)]
    generalize buildG (l.take i) = p at ih ⊢
    have hg := do_ok ih.cir ih.refs (hs _ (List.getElem_mem (show i < l.length by omega))) (by have := ih.len; omega)
    refine ⟨hg.cir, fun r hr => ?_, by have := hg.len; have := ih.len; show (doG p.1 p.2 _).1.length ≤ _; omega, by show (p.2 ++ [_]).length = _; rw [List.length_append, ih.rl]; rfl⟩
    rcases List.mem_append.1 hr with h | h
    · exact (ih.refs r h).mono hg.le
    · simp at h; subst h; exact hg.ref
def inV (vals : List Bool) (a : Int) : Bool := vals.getD (a - 1).toNat false
def refV (done : List Bool) (r : Int) : Bool := done.getD (r / 2).toNat false == decide (r % 2 = 0)
def gateV (vals done : List Bool) (g : GateM) : Bool := if g.k = 1 then inV vals g.a else if g.k = 2 then refV done g.a && refV done g.b else true
def doneG (gs : List GateM) (vals : List Bool) : Nat → List Bool
  | 0 => []
  | i + 1 => doneG gs vals i ++ [gateV vals (doneG gs vals i) (gs.getD i ⟨0, 0, 0⟩)]
theorem doneG_len (gs : List GateM) (vals : List Bool) : ∀ i, (doneG gs vals i).length = i
  | 0 => rfl
  | i + 1 => by rw [doneG, List.length_append, doneG_len gs vals i]; rfl
def valG (gs : List GateM) (vals : List Bool) (i : Nat) : Bool := (doneG gs vals (i + 1)).getD i false
theorem doneG_get (gs : List GateM) (vals : List Bool) : ∀ (m i : Nat), i < m → (doneG gs vals m).getD i false = valG gs vals i
  | 0, i, h => by omega
  | m + 1, i, h => by
    by_cases e : i = m
    · subst e; rfl
    · rw [doneG, List.getD_eq_getElem?_getD, List.getElem?_append_left (by rw [doneG_len]; omega), ← List.getD_eq_getElem?_getD, doneG_get gs vals m i (by omega)]
def evalG (gs : List GateM) (vals : List Bool) (r : Int) : Bool := valG gs vals (r / 2).toNat == decide (r % 2 = 0)
theorem refV_done (gs : List GateM) (vals : List Bool) {m : Nat} {r : Int} (h0 : 0 ≤ r) (h : r < 2 * (m : Int)) : refV (doneG gs vals m) r = evalG gs vals r := by
  unfold refV evalG
  rw [doneG_get gs vals m _ (by omega)]
theorem valG_eq (gs : List GateM) (vals : List Bool) (i : Nat) : valG gs vals i = gateV vals (doneG gs vals i) (gs.getD i ⟨0, 0, 0⟩) := by
  unfold valG
  rw [doneG, List.getD_eq_getElem?_getD, List.getElem?_append_right (by rw [doneG_len]; omega), doneG_len]
  simp
theorem valG_and {gs : List GateM} (hc : CirOk gs) (vals : List Bool) {i : Nat} (hi : i < gs.length) (hk : gs[i].k = 2) : valG gs vals i = (evalG gs vals gs[i].a && evalG gs vals gs[i].b) := by
  have hg : gs.getD i ⟨0, 0, 0⟩ = gs[i] := by rw [List.getD_eq_getElem?_getD, List.getElem?_eq_getElem hi]; rfl
  have h0 : i ≠ 0 := fun e => by
    subst e
    have := hc.zero
    rw [List.getElem?_eq_getElem hi] at this
    rw [Option.some.inj this] at hk
    simp at hk
  rcases hc.ok i hi h0 with h | h
  · omega
  · rw [valG_eq, hg, gateV, if_neg (by omega), if_pos hk, refV_done gs vals (by omega) (by omega), refV_done gs vals (by omega) (by omega)]
theorem eval_not {gs : List GateM} {vals : List Bool} {r : Int} (h : 0 ≤ r) : evalG gs vals (notR r) = !(evalG gs vals r) := by
  unfold evalG notR
  rw [if_neg (by omega)]
  by_cases h2 : r % 2 = 0
  · rw [if_pos h2, show (r + 1) / 2 = r / 2 by omega, decide_eq_true h2, decide_eq_false (show ¬ (r + 1) % 2 = 0 by omega)]
    cases valG gs vals (r / 2).toNat <;> rfl
  · rw [if_neg h2, show (r - 1) / 2 = r / 2 by omega, decide_eq_false h2, decide_eq_true (show (r - 1) % 2 = 0 by omega)]
    cases valG gs vals (r / 2).toNat <;> rfl
end Go.Ab
/- Chapter 24: what the gates that a circuit gains compute. -/
namespace Go.Ab
open Go Go.Proofs
set_option maxRecDepth 20000
set_option maxHeartbeats 4000000
theorem doneG_app (gs ex : List GateM) (v : List Bool) : ∀ n, n ≤ gs.length → doneG (gs ++ ex) v n = doneG gs v n
  | 0, _ => rfl
  | n + 1, h => by
    rw [doneG, doneG, doneG_app gs ex v n (by omega), List.getD_eq_getElem?_getD, List.getElem?_append_left (by omega), ← List.getD_eq_getElem?_getD]
theorem evalG_app (gs ex : List GateM) (v : List Bool) {r : Int} (hr : RefOk gs r) : evalG (gs ++ ex) v r = evalG gs v r := by
  unfold RefOk at hr
  unfold evalG valG
  rw [doneG_app gs ex v _ (by omega)]
structure Ev (gs : List GateM) (p : List GateM × Int) (f : List Bool → Bool) : Prop where
  keep : ∀ v r, RefOk gs r → evalG p.1 v r = evalG gs v r
  val : ∀ v, evalG p.1 v p.2 = f v
theorem findG_at {gs : List GateM} {g : GateM} (h : 0 ≤ findG gs g) : ∃ i : Nat, ∃ hi : i < gs.length, findG gs g = (i : Int) ∧ gs[i] = g := by
  unfold findG at h ⊢
  split at h
  · rename_i hx
    have hlt : gs.findIdx (fun h => decide (h = g)) < gs.length := by
      rw [List.findIdx_lt_length]
      obtain ⟨x, hx, h⟩ := List.any_eq_true.1 hx
      exact ⟨x, hx, h⟩
    refine ⟨_, hlt, if_pos hx, ?_⟩
    have := List.findIdx_getElem (w := hlt)
    exact of_decide_eq_true this
  · omega
theorem gate_val {gs : List GateM} {v : List Bool} {i : Nat} (hi : i < gs.length) : evalG gs v (2 * (i : Int)) = gateV v (doneG gs v i) gs[i] := by
  unfold evalG
  rw [show (2 * (i : Int) / 2).toNat = i by omega, decide_eq_true (show 2 * (i : Int) % 2 = 0 by omega), valG_eq, List.getD_eq_getElem?_getD, List.getElem?_eq_getElem hi]
  simp
theorem share_ev {gs : List GateM} {g : GateM} (hl : gs.length < 20000) {f : List Bool → Bool} (hfound : ∀ (v : List Bool) (i : Nat) (hi : i < gs.length), gs[i] = g → evalG gs v (2 * (i : Int)) = f v) (hnew : ∀ v, gateV v (doneG gs v gs.length) g = f v) : Ev gs (shareG gs g) f := by
  unfold shareG
  split
  · rename_i h
    obtain ⟨i, hi, h1, h2⟩ := findG_at h
    refine ⟨fun v r _ => rfl, fun v => ?_⟩
    show evalG gs v (2 * findG gs g) = f v
    rw [h1]
    exact hfound v i hi h2
  · rw [if_neg (by omega)]
    refine ⟨fun v r hr => evalG_app gs [g] v hr, fun v => ?_⟩
    show evalG (gs ++ [g]) v (2 * (gs.length : Int)) = f v
    rw [gate_val (by simp), doneG_app gs [g] v _ (Nat.le_refl _), List.getElem_append_right (Nat.le_refl _)]
    simpa using hnew v
theorem input_ev {gs : List GateM} {w : Int} (hw : 1 ≤ w ∧ w ≤ 1000) (hl : gs.length < 20000) : Ev gs (inputG gs w) (fun v => inV v w) := by
  unfold inputG
  rw [if_neg (by omega)]
  refine share_ev hl (fun v i hi h => ?_) (fun v => rfl)
  rw [gate_val hi, h]; rfl
theorem evalG_0 {gs : List GateM} (hc : CirOk gs) (v : List Bool) : evalG gs v 0 = true := by
  have h := gate_val (gs := gs) (v := v) hc.pos
  have h0 := hc.zero
  rw [List.getElem?_eq_getElem hc.pos] at h0
  rw [Option.some.inj h0] at h
  exact h
theorem evalG_1 {gs : List GateM} (hc : CirOk gs) (v : List Bool) : evalG gs v 1 = false := by
  have h := eval_not (gs := gs) (vals := v) (r := 0) (by omega)
  rw [evalG_0 hc] at h
  exact h
theorem min_max_and (f : Int → Bool) (a b : Int) : (f (min a b) && f (max a b)) = (f a && f b) := by
  rcases Int.le_total a b with h | h
  · rw [Int.min_eq_left h, Int.max_eq_right h]
  · rw [Int.min_eq_right h, Int.max_eq_left h, Bool.and_comm]
theorem and_ev {gs : List GateM} {a b : Int} (hc : CirOk gs) (ha : RefOk gs a) (hb : RefOk gs b) (hl : gs.length < 20000) : Ev gs (andG gs a b) (fun v => evalG gs v a && evalG gs v b) := by
  have ha' := ha
  have hb' := hb
  unfold RefOk at ha' hb'
  unfold andG
  rw [if_neg (by omega)]
  split
  · rename_i h
    refine ⟨fun v r _ => rfl, fun v => ?_⟩
    show evalG gs v 1 = _
    rw [evalG_1 hc]
    rcases h with rfl | rfl | rfl
    · rw [evalG_1 hc]; rfl
    · rw [evalG_1 hc, Bool.and_false]
    · rw [eval_not ha'.1]; cases evalG gs v a <;> rfl
  · split
    · rename_i h; subst h
      exact ⟨fun v r _ => rfl, fun v => by rw [evalG_0 hc]; rfl⟩
    · split
      · rename_i h
        refine ⟨fun v r _ => rfl, fun v => ?_⟩
        rcases h with rfl | rfl
        · rw [evalG_0 hc, Bool.and_true]
        · rw [Bool.and_self]
      · refine share_ev hl (fun v i hi h => ?_) (fun v => ?_)
        · have := valG_and hc v hi (by rw [h])
          rw [h] at this
          unfold evalG at this ⊢
          rw [show (2 * (i : Int) / 2).toNat = i by omega, decide_eq_true (show 2 * (i : Int) % 2 = 0 by omega), this]
          have hm := min_max_and (fun r => evalG gs v r) a b
          unfold evalG at hm
          rw [hm]
          simp
        · show (if (2 : Int) = 1 then inV v (min a b) else if (2 : Int) = 2 then refV (doneG gs v gs.length) (min a b) && refV (doneG gs v gs.length) (max a b) else true) = _
          rw [if_neg (by decide), if_pos rfl, refV_done gs v (by omega) (by omega), refV_done gs v (by omega) (by omega), min_max_and (fun r => evalG gs v r) a b]
theorem or_ev {gs : List GateM} {a b : Int} (hc : CirOk gs) (ha : RefOk gs a) (hb : RefOk gs b) (hl : gs.length < 20000) : Ev gs (orG gs a b) (fun v => evalG gs v a || evalG gs v b) := by
  have h := and_ev hc (notR_ok ha) (notR_ok hb) hl
  have hg := and_ok hc (notR_ok ha) (notR_ok hb) hl
  refine ⟨h.keep, fun v => ?_⟩
  have hr := hg.ref
  unfold RefOk at ha hb hr
  show evalG (andG gs (notR a) (notR b)).1 v (notR (andG gs (notR a) (notR b)).2) = _
  rw [eval_not hr.1, h.val, eval_not ha.1, eval_not hb.1]
  cases evalG gs v a <;> cases evalG gs v b <;> rfl
theorem findG_none {gs : List GateM} {g : GateM} (h : ¬ 0 ≤ findG gs g) : g ∉ gs := fun hm => by
  unfold findG at h
  rw [if_pos (List.any_eq_true.2 ⟨g, hm, by simp⟩)] at h
  omega
theorem share_nodup {gs : List GateM} {g : GateM} (h : gs.Nodup) : (shareG gs g).1.Nodup := by
  unfold shareG
  split
  · exact h
  · rename_i hf
    split
    · exact h
    · show (gs ++ [g]).Nodup
      rw [List.nodup_append]
      exact ⟨h, by simp, fun a ha b hb e => by simp at hb; subst hb; subst e; exact findG_none hf ha⟩
theorem input_nodup {gs : List GateM} {w : Int} (h : gs.Nodup) : (inputG gs w).1.Nodup := by
  unfold inputG; split
  · exact h
  · exact share_nodup h
theorem and_nodup {gs : List GateM} {a b : Int} (h : gs.Nodup) : (andG gs a b).1.Nodup := by
  unfold andG
  split
  · exact h
  · split
    · exact h
    · split
      · exact h
      · split
        · exact h
        · exact share_nodup h
theorem or_nodup {gs : List GateM} {a b : Int} (h : gs.Nodup) : (orG gs a b).1.Nodup := and_nodup h
end Go.Ab
/- Chapter 24: the predicate of a permutation, in plain terms. -/
namespace Go.Ab
open Go Go.Proofs
set_option maxRecDepth 20000
set_option maxHeartbeats 4000000
def backM (perm : List Int) (w : Int) : Int := (perm.findIdx (fun x => decide (x = w)) : Nat) + 1
def invM (perm : List Int) : List Int := (List.range perm.length).map fun j : Nat => backM perm ((j : Int) + 1)
structure PermOk (perm : List Int) : Prop where
  rng : ∀ w ∈ perm, 1 ≤ w ∧ w ≤ perm.length
  nodup : perm.Nodup
theorem nodup_len (n : Nat) : ∀ {l : List Int}, l.Nodup → (∀ x ∈ l, 1 ≤ x ∧ x ≤ n) → l.length ≤ n := by
  induction n with
  | zero =>
    intro l _ h
    cases l with
    | nil => exact Nat.le_refl _
    | cons x l => have := h x (by simp); omega
  | succ n ih =>
    intro l h1 h2
    have h3 : (l.erase ((n : Int) + 1)).length ≤ n := ih (h1.erase _) fun x hx => by
      have h4 := (List.Nodup.mem_erase_iff h1).1 hx
      have h5 := h2 x h4.2
      have := h4.1
      omega
    by_cases hn : ((n : Int) + 1) ∈ l
    · rw [List.length_erase_of_mem hn] at h3; omega
    · rw [List.erase_of_not_mem hn] at h3; omega
theorem PermOk.all {perm : List Int} (h : PermOk perm) {w : Int} (hw : 1 ≤ w ∧ w ≤ perm.length) : w ∈ perm := by
  apply Classical.byContradiction
  intro hn
  have := nodup_len perm.length (l := w :: perm) (List.nodup_cons.2 ⟨hn, h.nodup⟩) (fun x hx => by
    rcases List.mem_cons.1 hx with rfl | hx
    · exact hw
    · exact h.rng x hx)
  rw [List.length_cons] at this
  omega
theorem PermOk.at {perm : List Int} (h : PermOk perm) {w : Int} (hw : 1 ≤ w ∧ w ≤ perm.length) : ∃ i : Nat, ∃ hi : i < perm.length, perm.findIdx (fun x => decide (x = w)) = i ∧ perm[i] = w := by
  have hm := h.all hw
  have hlt : perm.findIdx (fun x => decide (x = w)) < perm.length := by
    rw [List.findIdx_lt_length]
    exact ⟨w, hm, by simp⟩
  exact ⟨_, hlt, rfl, of_decide_eq_true (List.findIdx_getElem (w := hlt))⟩
theorem PermOk.back {perm : List Int} (h : PermOk perm) {w : Int} (hw : 1 ≤ w ∧ w ≤ perm.length) : 1 ≤ backM perm w ∧ backM perm w ≤ perm.length := by
  obtain ⟨i, hi, h1, h2⟩ := h.at hw
  unfold backM
  rw [h1]
  omega
theorem PermOk.back_at {perm : List Int} (h : PermOk perm) {i : Nat} (hi : i < perm.length) : backM perm perm[i] = (i : Int) + 1 := by
  obtain ⟨j, hj, h1, h2⟩ := h.at (h.rng _ (List.getElem_mem hi))
  unfold backM
  rw [h1]
  have := (List.getElem_inj h.nodup).1 h2
  omega
theorem inv_len (perm : List Int) : (invM perm).length = perm.length := by simp [invM]
theorem inv_at {perm : List Int} {w : Int} (hw : 1 ≤ w ∧ w ≤ perm.length) (h : (w - 1).toNat < (invM perm).length) : (invM perm)[(w - 1).toNat] = backM perm w := by
  have e : (invM perm)[(w - 1).toNat] = backM perm (((w - 1).toNat : Nat) + 1 : Int) := by simp [invM]
  rw [e]
  congr 1
  omega
def predS (perm : List Int) (w : Int) (p : List GateM × Int) : List GateM × Int :=
  if backM perm w = w then p else
    (andG (orG (andG (andG (inputG (inputG p.1 w).1 (backM perm w)).1 (inputG p.1 w).2 (notR (inputG (inputG p.1 w).1 (backM perm w)).2)).1 (notR (inputG p.1 w).2) (inputG (inputG p.1 w).1 (backM perm w)).2).1 (andG (andG (inputG (inputG p.1 w).1 (backM perm w)).1 (inputG p.1 w).2 (notR (inputG (inputG p.1 w).1 (backM perm w)).2)).1 (notR (inputG p.1 w).2) (inputG (inputG p.1 w).1 (backM perm w)).2).2 p.2).1
      (notR (andG (inputG (inputG p.1 w).1 (backM perm w)).1 (inputG p.1 w).2 (notR (inputG (inputG p.1 w).1 (backM perm w)).2)).2)
      (orG (andG (andG (inputG (inputG p.1 w).1 (backM perm w)).1 (inputG p.1 w).2 (notR (inputG (inputG p.1 w).1 (backM perm w)).2)).1 (notR (inputG p.1 w).2) (inputG (inputG p.1 w).1 (backM perm w)).2).1 (andG (andG (inputG (inputG p.1 w).1 (backM perm w)).1 (inputG p.1 w).2 (notR (inputG (inputG p.1 w).1 (backM perm w)).2)).1 (notR (inputG p.1 w).2) (inputG (inputG p.1 w).1 (backM perm w)).2).2 p.2).2)
def predM (gs : List GateM) (perm order : List Int) : List GateM × Int := order.foldr (predS perm) (gs, 0)
def ngF (f g : Int → Bool) : List Int → Bool
  | [] => true
  | w :: o => if f w = g w then ngF f g o else g w
structure Pred (gs : List GateM) (n : Nat) (p : List GateM × Int) (f : List Bool → Bool) : Prop where
  cir : CirOk p.1
  ref : RefOk p.1 p.2
  le : gs.length ≤ p.1.length
  len : p.1.length ≤ gs.length + n
  keep : ∀ v r, RefOk gs r → evalG p.1 v r = evalG gs v r
  val : ∀ v, evalG p.1 v p.2 = f v
  nodup : gs.Nodup → p.1.Nodup
theorem Pred.of {gs : List GateM} {n : Nat} {p : List GateM × Int} {f : List Bool → Bool} (h1 : Grown gs n p) (h2 : Ev gs p f) (h3 : gs.Nodup → p.1.Nodup) : Pred gs n p f := ⟨h1.cir, h1.ref, h1.le, h1.len, h2.keep, h2.val, h3⟩
theorem predS_ok {gs : List GateM} {n : Nat} {perm : List Int} {p : List GateM × Int} {f : List Bool → Bool} (hp : Pred gs n p f) (ho : PermOk perm) (hn : perm.length ≤ 1000) {w : Int} (hw : 1 ≤ w ∧ w ≤ perm.length) (hl : gs.length + n < 19000) :
    Pred gs (n + 6) (predS perm w p) (fun v => if inV v w = inV v (backM perm w) then f v else inV v (backM perm w)) := by
  obtain ⟨hc, hr, hle, hlen, hk, hv, hnd⟩ := hp
  obtain ⟨gs1, r⟩ := p
  simp only at hc hr hle hlen hk hv hnd
  have hb := ho.back hw
  unfold predS
  by_cases he : backM perm w = w
  · rw [if_pos he]
    refine ⟨hc, hr, hle, by show gs1.length ≤ _; omega, hk, fun v => ?_, hnd⟩
    show evalG gs1 v r = _
    rw [hv v, he, if_pos rfl]
  · rw [if_neg he]
    simp only
    have g1 := input_ok hc (v := w) (by omega) (by omega)
    have v1 := input_ev (gs := gs1) (w := w) (by omega) (by omega)
    have n1 := fun h => input_nodup (gs := gs1) (w := w) h
    generalize inputG gs1 w = i1 at g1 v1 n1 ⊢
    have l1 := g1.le
    have m1 := g1.len
    have g2 := input_ok g1.cir (v := backM perm w) (by omega) (by omega)
    have v2 := input_ev (gs := i1.1) (w := backM perm w) (by omega) (by omega)
    have n2 := fun h => input_nodup (gs := i1.1) (w := backM perm w) h
    generalize inputG i1.1 (backM perm w) = i2 at g2 v2 n2 ⊢
    have l2 := g2.le
    have m2 := g2.len
    have x2 := g1.ref.mono l2
    have y2 := g2.ref
    have g3 := and_ok g2.cir x2 (notR_ok y2) (by omega)
    have v3 := and_ev g2.cir x2 (notR_ok y2) (by omega)
    have n3 := fun h => and_nodup (gs := i2.1) (a := i1.2) (b := notR i2.2) h
    generalize andG i2.1 i1.2 (notR i2.2) = i3 at g3 v3 n3 ⊢
    have l3 := g3.le
    have m3 := g3.len
    have x3 := x2.mono l3
    have y3 := y2.mono l3
    have g4 := and_ok g3.cir (notR_ok x3) y3 (by omega)
    have v4 := and_ev g3.cir (notR_ok x3) y3 (by omega)
    have n4 := fun h => and_nodup (gs := i3.1) (a := notR i1.2) (b := i2.2) h
    generalize andG i3.1 (notR i1.2) i2.2 = i4 at g4 v4 n4 ⊢
    have l4 := g4.le
    have m4 := g4.len
    have r4 := ((((hr.mono l1).mono l2).mono l3).mono l4)
    have g5 := or_ok g4.cir g4.ref r4 (by omega)
    have v5 := or_ev g4.cir g4.ref r4 (by omega)
    have n5 := fun h => or_nodup (gs := i4.1) (a := i4.2) (b := r) h
    generalize orG i4.1 i4.2 r = i5 at g5 v5 n5 ⊢
    have l5 := g5.le
    have m5 := g5.len
    have s5 := (g3.ref.mono l4).mono l5
    have g6 := and_ok g5.cir (notR_ok s5) g5.ref (by omega)
    have v6 := and_ev g5.cir (notR_ok s5) g5.ref (by omega)
    have n6 := fun h => and_nodup (gs := i5.1) (a := notR i3.2) (b := i5.2) h
    generalize andG i5.1 (notR i3.2) i5.2 = i6 at g6 v6 n6 ⊢
    have l6 := g6.le
    have m6 := g6.len
    refine ⟨g6.cir, g6.ref, by omega, by omega, fun v q hq => ?_, fun v => ?_, fun h => n6 (n5 (n4 (n3 (n2 (n1 (hnd h))))))⟩
    · have q1 := hq.mono hle
      rw [v6.keep v q ((((((q1.mono l1).mono l2).mono l3).mono l4)).mono l5), v5.keep v q (((((q1.mono l1).mono l2).mono l3).mono l4)), v4.keep v q ((((q1.mono l1).mono l2).mono l3)), v3.keep v q ((q1.mono l1).mono l2), v2.keep v q (q1.mono l1), v1.keep v q q1, hk v q hq]
    · have p3 := g3.ref
      unfold RefOk at p3
      have py := y2
      unfold RefOk at py
      have px := g1.ref
      unfold RefOk at px
      have ex2 : evalG i2.1 v i1.2 = inV v w := by rw [v2.keep v _ g1.ref, v1.val]
      have ey2 : evalG i2.1 v i2.2 = inV v (backM perm w) := v2.val v
      have e3 : evalG i3.1 v i3.2 = (inV v w && !(inV v (backM perm w))) := by rw [v3.val, ex2, eval_not py.1, ey2]
      have ex3 : evalG i3.1 v i1.2 = inV v w := by rw [v3.keep v _ x2, ex2]
      have ey3 : evalG i3.1 v i2.2 = inV v (backM perm w) := by rw [v3.keep v _ y2, ey2]
      have e4 : evalG i4.1 v i4.2 = (!(inV v w) && inV v (backM perm w)) := by rw [v4.val, eval_not px.1, ex3, ey3]
      have er4 : evalG i4.1 v r = f v := by rw [v4.keep v _ (((hr.mono l1).mono l2).mono l3), v3.keep v _ ((hr.mono l1).mono l2), v2.keep v _ (hr.mono l1), v1.keep v _ hr, hv v]
      have e5 : evalG i5.1 v i5.2 = ((!(inV v w) && inV v (backM perm w)) || f v) := by rw [v5.val, e4, er4]
      have es5 : evalG i5.1 v i3.2 = (inV v w && !(inV v (backM perm w))) := by rw [v5.keep v _ (g3.ref.mono l4), v4.keep v _ g3.ref, e3]
      rw [v6.val, eval_not p3.1, es5, e5]
      cases inV v w <;> cases inV v (backM perm w) <;> simp
theorem pred_ok {gs : List GateM} {perm : List Int} (hc : CirOk gs) (ho : PermOk perm) (hn : perm.length ≤ 1000) : ∀ order : List Int, (∀ w ∈ order, 1 ≤ w ∧ w ≤ perm.length) → gs.length + 6 * order.length < 18000 → Pred gs (6 * order.length) (predM gs perm order) (fun v => ngF (inV v) (fun w => inV v (backM perm w)) order)
  | [], _, _ => ⟨hc, ⟨Int.le_refl _, by have := hc.pos; show (0 : Int) < 2 * (gs.length : Int); omega⟩, Nat.le_refl _, Nat.le_refl _, fun v r _ => rfl, fun v => evalG_0 hc v, fun h => h⟩
  | w :: o, hw, hl => by
    have ih := pred_ok hc ho hn o (fun x hx => hw x (by simp [hx])) (by simp only [List.length_cons] at hl; omega)
    have h := predS_ok ih ho hn (hw w (by simp)) (by simp only [List.length_cons] at hl; omega)
    exact h
theorem pred_id {gs : List GateM} {perm : List Int} : ∀ order : List Int, (∀ w ∈ order, backM perm w = w) → predM gs perm order = (gs, 0)
  | [], _ => rfl
  | w :: o, h => by
    show predS perm w (predM gs perm o) = _
    rw [pred_id o fun x hx => h x (by simp [hx]), predS, if_pos (h w (by simp))]
end Go.Ab
/- Chapter 24: the order of assignments, in plain terms. -/
namespace Go.Ab
open Go Go.Proofs
set_option maxRecDepth 20000
set_option maxHeartbeats 4000000
theorem ng_congr {f f' g g' : Int → Bool} : ∀ o : List Int, (∀ w ∈ o, f w = f' w) → (∀ w ∈ o, g w = g' w) → ngF f g o = ngF f' g' o
  | [], _, _ => rfl
  | w :: o, h1, h2 => by
    unfold ngF
    rw [h1 w (by simp), h2 w (by simp), ng_congr o (fun x hx => h1 x (by simp [hx])) (fun x hx => h2 x (by simp [hx]))]
def imgM (vals : List Bool) (perm : List Int) : List Bool := (invM perm).map fun w => inV vals w
theorem img_len (vals : List Bool) (perm : List Int) : (imgM vals perm).length = perm.length := by simp [imgM, inv_len]
theorem img_at (vals : List Bool) {perm : List Int} {w : Int} (hw : 1 ≤ w ∧ w ≤ perm.length) : inV (imgM vals perm) w = inV vals (backM perm w) := by
  unfold inV
  have hlt : (w - 1).toNat < (imgM vals perm).length := by rw [img_len]; omega
  rw [List.getD_eq_getElem?_getD, List.getElem?_eq_getElem hlt]
  show (imgM vals perm)[(w - 1).toNat] = _
  have : (imgM vals perm)[(w - 1).toNat] = inV vals ((invM perm)[(w - 1).toNat]'(by rw [inv_len]; omega)) := by simp [imgM]
  rw [this, inv_at hw]; rfl
def ordM (n : Nat) : List Int := (List.range n).map fun i : Nat => (i : Int) + 1
theorem ord_mem {n : Nat} {w : Int} : w ∈ ordM n ↔ 1 ≤ w ∧ w ≤ n := by
  unfold ordM
  rw [List.mem_map]
  constructor
  · rintro ⟨i, hi, rfl⟩
    have := List.mem_range.1 hi
    omega
  · intro h
    exact ⟨(w - 1).toNat, List.mem_range.2 (by omega), by omega⟩
def leadP (vals : List Bool) (perm : List Int) : Bool := ngF (inV vals) (inV (imgM vals perm)) (ordM perm.length)
def leadM (vals : List Bool) (perms : List (List Int)) : Bool := perms.all (leadP vals)
end Go.Ab
/- Chapter 24: the permutation that numbers describe, in plain terms. -/
namespace Go.Ab
open Go Go.Proofs
set_option maxRecDepth 20000
set_option maxHeartbeats 4000000
def swapL (l : List Int) (i k : Nat) : List Int := (l.set i (l.getD k 0)).set k (l.getD i 0)
theorem swap_len (l : List Int) (i k : Nat) : (swapL l i k).length = l.length := by simp [swapL]
theorem swap_at {l : List Int} {i k j : Nat} (hi : i < l.length) (hk : k < l.length) (hj : j < (swapL l i k).length) : (swapL l i k)[j] = l[if j = k then i else if j = i then k else j]'(by rw [swap_len] at hj; split <;> (try split) <;> omega) := by
  have hj' : j < l.length := by rwa [swap_len] at hj
  unfold swapL
  by_cases h1 : j = k
  · subst h1
    simp [List.getD_eq_getElem?_getD, hi]
  · by_cases h2 : j = i
    · subst h2
      simp [List.getD_eq_getElem?_getD, hk, List.getElem_set_ne (Ne.symm h1), h1]
    · simp [List.getElem_set_ne (Ne.symm h1), List.getElem_set_ne (Ne.symm h2), h1, h2]
theorem swap_nodup {l : List Int} {i k : Nat} (hi : i < l.length) (hk : k < l.length) (h : l.Nodup) : (swapL l i k).Nodup := by
  unfold List.Nodup
  rw [List.pairwise_iff_getElem]
  intro a b ha hb hab e
  rw [swap_at hi hk ha, swap_at hi hk hb] at e
  have := (List.getElem_inj h).1 e
  split at this <;> split at this <;> (try split at this) <;> (try split at this) <;> omega
theorem swap_mem {l : List Int} {i k : Nat} (hi : i < l.length) (hk : k < l.length) {x : Int} (hx : x ∈ swapL l i k) : x ∈ l := by
  obtain ⟨j, hj, rfl⟩ := List.getElem_of_mem hx
  rw [swap_at hi hk hj]
  exact List.getElem_mem _
def permM (raw : List Int) : Nat → List Int
  | 0 => ordM raw.length
  | i + 1 => swapL (permM raw i) i (raw.getD i 0 % (raw.length : Int)).toNat
theorem ord_len (n : Nat) : (ordM n).length = n := by simp [ordM]
theorem ord_at {n j : Nat} (h : j < (ordM n).length) : (ordM n)[j] = (j : Int) + 1 := by simp [ordM]
theorem ord_nodup (n : Nat) : (ordM n).Nodup := by
  unfold List.Nodup
  rw [List.pairwise_iff_getElem]
  intro a b ha hb hab e
  rw [ord_at ha, ord_at hb] at e
  omega
theorem raw_lt {raw : List Int} {i : Nat} (h : i < raw.length) : (raw.getD i 0 % (raw.length : Int)).toNat < raw.length := by
  have h1 : raw.getD i 0 % (raw.length : Int) < (raw.length : Int) := Int.emod_lt_of_pos _ (by omega)
  have h2 : 0 ≤ raw.getD i 0 % (raw.length : Int) := Int.emod_nonneg _ (by omega)
  omega
structure PermN (n : Nat) (l : List Int) : Prop where
  len : l.length = n
  nodup : l.Nodup
  rng : ∀ w ∈ l, 1 ≤ w ∧ w ≤ (n : Int)
theorem PermN.ok {n : Nat} {l : List Int} (h : PermN n l) : PermOk l := ⟨fun w hw => by rw [h.len]; exact h.rng w hw, h.nodup⟩
theorem perm_n (raw : List Int) : ∀ i, i ≤ raw.length → PermN raw.length (permM raw i)
  | 0, _ => ⟨ord_len _, ord_nodup _, fun w hw => ord_mem.1 hw⟩
  | i + 1, h => by
    have ih := perm_n raw i (by omega)
    have hk := raw_lt (raw := raw) (i := i) (by omega)
    refine ⟨by rw [permM, swap_len, ih.len], ?_, fun w hw => ih.rng w (swap_mem (by rw [ih.len]; omega) (by rw [ih.len]; exact hk) hw)⟩
    exact swap_nodup (by rw [ih.len]; omega) (by rw [ih.len]; exact hk) ih.nodup
end Go.Ab
/- Chapter 24: permutations that act on a list of variables; leaders, in plain terms. -/
namespace Go.Ab
open Go Go.Proofs
set_option maxRecDepth 20000
set_option maxHeartbeats 4000000
def litsL {α : Type} [DecidableEq α] (V : List α) (f : α → α) : List Int := V.map fun v => (V.findIdx (fun u => decide (u = f v)) : Int) + 1
theorem lits_len {α : Type} [DecidableEq α] (V : List α) (f : α → α) : (litsL V f).length = V.length := by simp [litsL]
theorem find_at {α : Type} [DecidableEq α] {V : List α} {x : α} (h : x ∈ V) : ∃ i : Nat, ∃ hi : i < V.length, V.findIdx (fun u => decide (u = x)) = i ∧ V[i] = x := by
  have hlt : V.findIdx (fun u => decide (u = x)) < V.length := by
    rw [List.findIdx_lt_length]
    exact ⟨x, h, by simp⟩
  exact ⟨_, hlt, rfl, of_decide_eq_true (List.findIdx_getElem (w := hlt))⟩
theorem lits_at {α : Type} [DecidableEq α] {V : List α} {f : α → α} {i : Nat} (h : i < (litsL V f).length) : (litsL V f)[i] = (V.findIdx (fun u => decide (u = f (V[i]'(by rwa [lits_len] at h)))) : Int) + 1 := by simp [litsL]
theorem lits_perm {α : Type} [DecidableEq α] {V : List α} (hV : V.Nodup) {f : α → α} (hf : ∀ v ∈ V, f v ∈ V) (hi : ∀ u ∈ V, ∀ v ∈ V, f u = f v → u = v) : PermN V.length (litsL V f) := by
  refine ⟨lits_len V f, ?_, fun w hw => ?_⟩
  · unfold List.Nodup
    rw [List.pairwise_iff_getElem]
    intro a b ha hb hab e
    rw [lits_at ha, lits_at hb] at e
    rw [lits_len] at ha hb
    obtain ⟨i, i0, i1, i2⟩ := find_at (hf _ (List.getElem_mem ha))
    obtain ⟨j, j0, j1, j2⟩ := find_at (hf _ (List.getElem_mem hb))
    rw [i1, j1] at e
    have hij : i = j := by omega
    subst hij
    have := hi _ (List.getElem_mem ha) _ (List.getElem_mem hb) (i2.symm.trans j2)
    have := (List.getElem_inj hV).1 this
    omega
  · obtain ⟨i, hi', rfl⟩ := List.getElem_of_mem hw
    rw [lits_at hi']
    rw [lits_len] at hi'
    obtain ⟨j, j0, j1, j2⟩ := find_at (hf _ (List.getElem_mem hi'))
    rw [j1]
    omega
end Go.Ab
/-
  DERIVED: THE SHELF's CONTRACTS AT THIS DUMP, IN PLAIN WORDS (tools/lay-plain.mjs out of 'TryzShelf.lean', which tools/lay-shelf.mjs wrote): THE SAME DECLARATIONS UNDER THE SAME NAMES: 'import', 'namespace', 'open', 'def', 'theorem' AND NOTHING ELSE: no command of the shelf's: FOR A HAND-IN. Each laying: the table of numbers ('.._ren') and one theorem, a field a fact of the dump's own or the kernel's comparison; each contract: ONE APPLICATION.
-/
namespace Go.Proofs
open Go.Shelf
def Tryz.lays189_ren : Go.Shelf.Ren := ⟨fun | 189 => 45 | 125 => 89 | 257 => 88 | 128 => 132 | 129 => 133 | 294 => 124 | 295 => 125 | 296 => 126 | 297 => 127 | 298 => 128 | 299 => 129 | 216 => 98 | 300 => 130 | 301 => 131 | 328 => 150 | 329 => 151 | 330 => 152 | 331 => 153 | 332 => 154 | 215 => 138 | 343 => 160 | n => n, fun | 28 => 28 | 3 => 3 | 46 => 150 | 0 => 0 | 51 => 185 | 53 => 187 | 4 => 4 | 183 => 179 | 182 => 178 | 131 => 120 | 5 => 5 | 9 => 9 | 218 => 195 | 222 => 199 | 228 => 203 | 229 => 204 | n => n, fun | n => n⟩
theorem Tryz.lays189 : Go.Proofs.Lays.n189 Tryz.prog Tryz.lays189_ren := {
  mixed := by kernel_rfl
  f125 := Tryz.func89.trans (congrArg some (by kernel_rfl))
  f128 := Tryz.func132.trans (congrArg some (by kernel_rfl))
  f129 := Tryz.func133.trans (congrArg some (by kernel_rfl))
  f189 := Tryz.func45.trans (congrArg some (by kernel_rfl))
  f215 := Tryz.func138.trans (congrArg some (by kernel_rfl))
  f216 := Tryz.func98.trans (congrArg some (by kernel_rfl))
  f257 := Tryz.func88.trans (congrArg some (by kernel_rfl))
  f294 := Tryz.func124.trans (congrArg some (by kernel_rfl))
  f295 := Tryz.func125.trans (congrArg some (by kernel_rfl))
  f296 := Tryz.func126.trans (congrArg some (by kernel_rfl))
  f297 := Tryz.func127.trans (congrArg some (by kernel_rfl))
  f298 := Tryz.func128.trans (congrArg some (by kernel_rfl))
  f299 := Tryz.func129.trans (congrArg some (by kernel_rfl))
  f300 := Tryz.func130.trans (congrArg some (by kernel_rfl))
  f301 := Tryz.func131.trans (congrArg some (by kernel_rfl))
  f328 := Tryz.func150.trans (congrArg some (by kernel_rfl))
  f329 := Tryz.func151.trans (congrArg some (by kernel_rfl))
  f330 := Tryz.func152.trans (congrArg some (by kernel_rfl))
  f331 := Tryz.func153.trans (congrArg some (by kernel_rfl))
  f332 := Tryz.func154.trans (congrArg some (by kernel_rfl))
  f343 := Tryz.func160.trans (congrArg some (by kernel_rfl))
  t0 := Tryz.underlying0
  a0 := Tryz.isAgg0
  z0 := Tryz.sizeOf0
  v0 := Tryz.zeroValue0
  t3 := Tryz.underlying3
  a3 := Tryz.isAgg3
  z3 := Tryz.sizeOf3
  v3 := Tryz.zeroValue3
  t4 := Tryz.underlying4
  a4 := Tryz.isAgg4
  z4 := Tryz.sizeOf4
  v4 := Tryz.zeroValue4
  t5 := Tryz.underlying5
  a5 := Tryz.isAgg5
  z5 := Tryz.sizeOf5
  v5 := Tryz.zeroValue5
  t9 := Tryz.underlying9
  a9 := Tryz.isAgg9
  z9 := Tryz.sizeOf9
  v9 := Tryz.zeroValue9
  t28 := Tryz.underlying28
  a28 := Tryz.isAgg28
  z28 := Tryz.sizeOf28
  v28 := Tryz.zeroValue28
  t46 := Tryz.underlying150
  a46 := Tryz.isAgg150
  z46 := Tryz.sizeOf150
  v46 := Tryz.zeroValue150
  t51 := Tryz.underlying185
  a51 := Tryz.isAgg185
  z51 := Tryz.sizeOf185
  v51 := Tryz.zeroValue185
  t53 := Tryz.underlying187
  a53 := Tryz.isAgg187
  z53 := Tryz.sizeOf187
  v53 := Tryz.zeroValue187
  t131 := Tryz.underlying120
  a131 := Tryz.isAgg120
  z131 := Tryz.sizeOf120
  v131 := Tryz.zeroValue120
  t182 := Tryz.underlying178
  a182 := Tryz.isAgg178
  z182 := Tryz.sizeOf178
  v182 := Tryz.zeroValue178
  t183 := Tryz.underlying179
  a183 := Tryz.isAgg179
  z183 := Tryz.sizeOf179
  v183 := Tryz.zeroValue179
  t218 := Tryz.underlying195
  a218 := Tryz.isAgg195
  z218 := Tryz.sizeOf195
  v218 := Tryz.zeroValue195
  t222 := Tryz.underlying199
  a222 := Tryz.isAgg199
  z222 := Tryz.sizeOf199
  v222 := Tryz.zeroValue199
  t228 := Tryz.underlying203
  a228 := Tryz.isAgg203
  z228 := Tryz.sizeOf203
  v228 := Tryz.zeroValue203
  t229 := Tryz.underlying204
  a229 := Tryz.isAgg204
  z229 := Tryz.sizeOf204
  v229 := Tryz.zeroValue204 }
open Go.Sort Go.RowKit in
theorem Tryz.slices_Sort_int (blk off cap : Nat) (zs : List Int) (w : World) (hH : Holds (Value.int .i64) w blk off zs.toArray) (hblk : blk < w.heap.size) (hsz : zs.length < 4611686018427387904) :
    Calls Tryz.prog 45 #[.slice (some ⟨blk, off, none⟩) zs.length cap] w fun e w' =>
      e = .returned (.tuple #[]) ∧ ∃ n os, w' = grow (putRow (Value.int .i64) (Sort.ahead w n) blk off (zs.mergeSort fun x y => decide (x ≤ y)).toArray) os := Any.slices_Sort_int Tryz.lays189 blk off cap zs w hH hblk hsz
def Tryz.laysNm225_ren : Go.Shelf.Ren := ⟨fun | 25 => 57 | 31 => 98 | 32 => 99 | 37 => 138 | n => n, fun | 22 => 28 | 3 => 3 | 4 => 4 | 40 => 150 | 0 => 0 | n => n, fun | n => n⟩
theorem Tryz.laysNm225 : Go.Proofs.Lays2.n25 Tryz.prog Tryz.laysNm225_ren := {
  mixed := by kernel_rfl
  f25 := Tryz.func57.trans (congrArg some (by kernel_rfl))
  f31 := Tryz.func98.trans (congrArg some (by kernel_rfl))
  f32 := Tryz.func99.trans (congrArg some (by kernel_rfl))
  f37 := Tryz.func138.trans (congrArg some (by kernel_rfl))
  t0 := Tryz.underlying0
  a0 := Tryz.isAgg0
  z0 := Tryz.sizeOf0
  v0 := Tryz.zeroValue0
  t3 := Tryz.underlying3
  a3 := Tryz.isAgg3
  z3 := Tryz.sizeOf3
  v3 := Tryz.zeroValue3
  t4 := Tryz.underlying4
  a4 := Tryz.isAgg4
  z4 := Tryz.sizeOf4
  v4 := Tryz.zeroValue4
  t22 := Tryz.underlying28
  a22 := Tryz.isAgg28
  z22 := Tryz.sizeOf28
  v22 := Tryz.zeroValue28
  t40 := Tryz.underlying150
  a40 := Tryz.isAgg150
  z40 := Tryz.sizeOf150
  v40 := Tryz.zeroValue150 }
open Go.RowKit Go.Lib in
theorem Tryz.slices_BinarySearch_int (b off n c : Nat) (zs : List Int) (x : Int) (w : World) (hz : n ≤ zs.length) (hbig : n < 4611686018427387904) (hc : ∀ j, j < zs.length → w.cell? ⟨b, off + j, none⟩ = some (.int .i64 (zs.getD j 0))) (hs : (zs.take n).Pairwise (· ≤ ·)) :
    Calls Tryz.prog 57 #[.slice (some ⟨b, off, none⟩) n c, .int .i64 x] w fun e w' => e = .returned (.tuple #[.int .i64 ((zs.take n).countP (· < x) : Nat), .bool ((zs.take n).contains x)]) ∧ ∃ q, w' = w.drewN q := Any.slices_BinarySearch_int Tryz.laysNm225 b off n c zs x w hz hbig hc hs
open Go.RowKit Go.Sort in
theorem Tryz.slices_Sort_int_none (p : Option Addr) (cap : Nat) (w : World) :
    Calls Tryz.prog 45 #[.slice p 0 cap] w fun e w' => e = .returned (.tuple #[]) ∧ w' = w := Any.slices_Sort_int_none Tryz.lays189 p cap w
open Go.RowKit Go.Lib in
theorem Tryz.slices_BinarySearch_int_empty (a : Option Addr) (c : Nat) (x : Int) (w : World) :
    Calls Tryz.prog 57 #[.slice a 0 c, .int .i64 x] w fun e w' => e = .returned (.tuple #[.int .i64 0, .bool false]) ∧ w' = w := Any.slices_BinarySearch_int_empty Tryz.laysNm225 a c x w
end Go.Proofs
/- Go's slices.Sort and slices.Compact at numbers, as callees that rewrite a row. -/
namespace Go.Ab
open Go Go.Proofs Go.RowKit
def sortL (zs : List Int) : List Int := zs.mergeSort fun x y => decide (x ≤ y)
def compL (zs : List Int) : List Int := Go.Lib.compact zs
def compZ (zs : List Int) : List Int := compL zs ++ List.replicate (zs.length - (compL zs).length) 0
theorem compL_le (zs : List Int) : (compL zs).length ≤ zs.length := by
  unfold compL Go.Lib.compact Go.Lib.compactUpTo
  rw [List.length_map]
  exact Nat.le_trans (List.length_filter_le _ _) (by simp)
theorem sort_rowC : RowC Tryz.prog 45 sortL none where
  enters := enters_of Tryz.func45 rfl (by decide)
  len := fun zs => by simp [sortL]
  retle := fun r h => by cases h
  calls := fun b cap zs w hH hb hl _ => Tryz.slices_Sort_int b 0 cap zs w hH hb (by omega)
  nil := fun w => (Tryz.slices_Sort_int_none none 0 w).mono fun e w' ⟨h1, h2⟩ => ⟨h1, h2 ▸ Below.refl _ _⟩
end Go.Ab
/- Lists of numbers put in order, each number once. -/
namespace Go.Ab
open Go Go.Proofs
abbrev Inc (l : List Int) : Prop := l.Pairwise (· < ·)
theorem inc_ext : ∀ {a b : List Int}, Inc a → Inc b → (∀ x, x ∈ a ↔ x ∈ b) → a = b
  | [], [], _, _, _ => rfl
  | [], y :: b, _, _, h => by have := (h y).2 (by simp); simp at this
  | x :: a, [], _, _, h => by have := (h x).1 (by simp); simp at this
  | x :: a, y :: b, ha, hb, h => by
    have ha' := List.pairwise_cons.1 ha
    have hb' := List.pairwise_cons.1 hb
    have hxy : x = y := by
      have h1 := (h x).1 (by simp)
      have h2 := (h y).2 (by simp)
      rcases List.mem_cons.1 h1 with e | h1
      · exact e
      · rcases List.mem_cons.1 h2 with e | h2
        · exact e.symm
        · have := hb'.1 x h1
          have := ha'.1 y h2
          omega
    subst hxy
    rw [inc_ext ha'.2 hb'.2 fun z => ?_]
    constructor
    · intro hz
      have h1 := ha'.1 z hz
      rcases List.mem_cons.1 ((h z).1 (by simp [hz])) with e | h2
      · omega
      · exact h2
    · intro hz
      have h1 := hb'.1 z hz
      rcases List.mem_cons.1 ((h z).2 (by simp [hz])) with e | h2
      · omega
      · exact h2
theorem getBang {zs : List Int} {j : Nat} (hj : j < zs.length) : zs.toArray[j]! = zs[j] := by simp [hj]
theorem mem_comp {zs : List Int} {x : Int} : x ∈ compL zs ↔ ∃ j, ∃ h : j < zs.length, zs[j] = x ∧ (j = 0 ∨ ∃ h' : j - 1 < zs.length, zs[j] ≠ zs[j - 1]) := by
  unfold compL Go.Lib.compact Go.Lib.compactUpTo
  simp only [List.mem_map, List.mem_filter, List.mem_range, Go.Lib.keeps, decide_eq_true_eq]
  constructor
  · rintro ⟨j, ⟨hj, hk⟩, rfl⟩
    refine ⟨j, hj, (getBang hj).symm, ?_⟩
    rcases hk with hk | hk
    · exact .inl hk
    · by_cases h0 : j = 0
      · exact .inl h0
      · right
        refine ⟨by omega, ?_⟩
        rwa [getBang hj, getBang (by omega)] at hk
  · rintro ⟨j, hj, rfl, hk⟩
    refine ⟨j, ⟨hj, ?_⟩, getBang hj⟩
    rcases hk with hk | ⟨h', hk⟩
    · exact .inl hk
    · right
      rwa [getBang hj, getBang h']
theorem comp_mem {zs : List Int} {x : Int} : x ∈ compL zs ↔ x ∈ zs := by
  rw [mem_comp]
  constructor
  · rintro ⟨j, hj, rfl, _⟩; exact List.getElem_mem hj
  · intro hx
    obtain ⟨j, hj, rfl⟩ := List.getElem_of_mem hx
    induction j with
    | zero => exact ⟨0, hj, rfl, .inl rfl⟩
    | succ j ih =>
      by_cases e : zs[j + 1] = zs[j]
      · obtain ⟨i, hi, h1, h2⟩ := ih (by omega) (List.getElem_mem _)
        exact ⟨i, hi, h1.trans e.symm, h2⟩
      · exact ⟨j + 1, hj, rfl, .inr ⟨by omega, e⟩⟩
theorem comp_inc {zs : List Int} (h : zs.Pairwise (· ≤ ·)) : Inc (compL zs) := by
  unfold compL Go.Lib.compact Go.Lib.compactUpTo Inc
  rw [List.pairwise_map]
  have h1 : ((List.range zs.length).filter (Go.Lib.keeps zs.toArray)).Pairwise (· < ·) := List.Pairwise.filter _ List.pairwise_lt_range
  refine List.Pairwise.imp_of_mem (fun {i j} hi hj hij => ?_) h1
  simp only [List.mem_filter, List.mem_range, Go.Lib.keeps, decide_eq_true_eq] at hi hj
  obtain ⟨hi1, _⟩ := hi
  obtain ⟨hj1, hj2⟩ := hj
  rw [getBang hi1, getBang hj1]
  rw [List.pairwise_iff_getElem] at h
  rcases hj2 with h0 | h0
  · omega
  · have hjm : j - 1 < zs.length := by omega
    have h2 : zs[j - 1] ≤ zs[j] := h (j - 1) j hjm hj1 (by omega)
    rw [getBang hj1, getBang hjm] at h0
    by_cases e : i = j - 1
    · subst e; omega
    · have h3 : zs[i] ≤ zs[j - 1] := h i (j - 1) hi1 hjm (by omega)
      omega
theorem sort_mem {zs : List Int} {x : Int} : x ∈ sortL zs ↔ x ∈ zs := (List.mergeSort_perm zs _).mem_iff
theorem sort_le (zs : List Int) : (sortL zs).Pairwise (· ≤ ·) := by
  have := List.pairwise_mergeSort (le := fun x y : Int => decide (x ≤ y)) (fun a b c h1 h2 => by simp only [decide_eq_true_eq] at *; omega) (fun a b => by simp only [Bool.or_eq_true, decide_eq_true_eq]; omega) zs
  exact this.imp fun h => by simpa using h
def canon (zs : List Int) : List Int := compL (sortL zs)
theorem canon_inc (zs : List Int) : Inc (canon zs) := comp_inc (sort_le zs)
theorem canon_mem {zs : List Int} {x : Int} : x ∈ canon zs ↔ x ∈ zs := by unfold canon; rw [comp_mem, sort_mem]
theorem canon_len (zs : List Int) : (canon zs).length ≤ zs.length := by
  have h1 := compL_le (sortL zs)
  have h2 : (sortL zs).length = zs.length := by simp [sortL]
  unfold canon; omega
theorem canon_id {zs : List Int} (h : Inc zs) : canon zs = zs := inc_ext (canon_inc zs) h fun x => canon_mem
theorem canon_congr {a b : List Int} (h : ∀ x, x ∈ a ↔ x ∈ b) : canon a = canon b := inc_ext (canon_inc a) (canon_inc b) fun x => by rw [canon_mem, canon_mem, h]
end Go.Ab
/- Chapter 24: the reference's functions on permutations and assignments, walked. -/
namespace Go.Ab
open Go Go.Proofs
open Nat (reduceAdd reduceSub)
set_option maxRecDepth 20000
set_option maxHeartbeats 4000000
theorem ord_snoc (n : Nat) : ordM (n + 1) = ordM n ++ [(n : Int) + 1] := by
  unfold ordM
  rw [List.range_succ, List.map_append]; rfl
theorem inV_of {vals : List Bool} {w : Int} (h1 : 1 ≤ w) (h2 : w ≤ (vals.length : Int)) : inV vals w = vals[(w - 1).toNat]'(by omega) := by
  unfold inV
  rw [List.getD_eq_getElem?_getD, List.getElem?_eq_getElem (by omega)]; rfl
theorem inV_no {vals : List Bool} {w : Int} (h2 : ¬ w ≤ (vals.length : Int)) : inV vals w = false := by
  unfold inV
  rw [List.getD_eq_getElem?_getD, List.getElem?_eq_none (by omega)]; rfl
theorem inv_snoc {perm : List Int} {k : Nat} (hk : k < perm.length) : (invM perm).take (k + 1) = (invM perm).take k ++ [backM perm ((k : Int) + 1)] := by
  rw [take_succ_get (by rw [inv_len]; exact hk)]
  congr 2
  simp [invM]
def atM (perm : List Int) (w : Int) (k : Nat) : Int := if perm.findIdx (fun x => decide (x = w)) < k then (perm.findIdx (fun x => decide (x = w)) : Nat) + 1 else w
theorem atM_hit {perm : List Int} (h : PermOk perm) {k : Nat} (hk : k < perm.length) {w : Int} (hw : perm[k] = w) : atM perm w (k + 1) = (k : Int) + 1 := by
  have := h.back_at hk
  unfold backM at this
  rw [hw] at this
  unfold atM
  rw [if_pos (by omega), this]
theorem atM_miss {perm : List Int} (h : PermOk perm) {k : Nat} (hk : k < perm.length) {w : Int} (hw : ¬ perm[k] = w) (hr : 1 ≤ w ∧ w ≤ perm.length) : atM perm w (k + 1) = atM perm w k := by
  obtain ⟨i, hi, h1, h2⟩ := h.at hr
  unfold atM
  rw [h1]
  have hne : i ≠ k := fun e => hw (by subst e; exact h2)
  by_cases hlt : i < k
  · rw [if_pos (by omega), if_pos hlt]
  · rw [if_neg (by omega), if_neg hlt]
theorem atM_end {perm : List Int} (h : PermOk perm) {w : Int} (hr : 1 ≤ w ∧ w ≤ perm.length) : atM perm w perm.length = backM perm w := by
  obtain ⟨i, hi, h1, h2⟩ := h.at hr
  unfold atM backM
  rw [h1, if_pos hi]
theorem ng_drop {f g : Int → Bool} {o : List Int} {i : Nat} (hi : i < o.length) : ngF f g (o.drop i) = if f o[i] = g o[i] then ngF f g (o.drop (i + 1)) else g o[i] := by
  rw [List.drop_eq_getElem_cons hi]; rfl
theorem ng_eq {f g : Int → Bool} {o : List Int} {i : Nat} (hi : i < o.length) (he : f o[i] = g o[i]) : ngF f g (o.drop (i + 1)) = ngF f g (o.drop i) := by rw [ng_drop hi, if_pos he]
theorem ng_ne {f g : Int → Bool} {o : List Int} {i : Nat} (hi : i < o.length) (he : ¬ f o[i] = g o[i]) : ngF f g (o.drop i) = g o[i] := by rw [ng_drop hi, if_neg he]
attribute [local irreducible] AW AOps thenD inBlockD AR iterEnds roundEndsN inlEnds noGotoD canon ordM invM backM atM ngF
theorem val24_fn (vals : List Bool) (w : Int) (hw : 1 ≤ w ∧ w ≤ 1000000) : Fn Tryz.prog 59 [.pv (bools vals), litI w] (litB (inV vals w)) := by
  by_cases h : w ≤ (vals.length : Int)
  · rw [inV_of hw.1 h]
    refine Fn.enter (n := 20) Tryz.func59 rfl rfl rfl rfl rfl (by decide) fun g hro_ hwt_ => ?_; (try refine nz ?_)
    (refine Q335 ?_; refine Q309 ?_; refine zm ?_; refine zt ?_; refine zn ?_; refine zt ?_; refine AOps.leq rfl rfl rfl rfl rfl ?_; refine zT ?_; refine Q43 ?_; refine zm ?_; refine Q152 ?_; (focus ((with_reducible apply AOps.index_mapI); (iterate 7 exact rfl); omega; rotate_left; (first | omega | exact Nat.zero_lt_one | exact (by simp)))); refine zt ?_; refine zr ?_; refine zT ?_; refine Q42 ?_)
    (apply ends_ret; (exact Res.one (.tmp rfl rfl)); (refine Le.litB ?_; (rfl)))
  · rw [inV_no h]
    refine Fn.enter (n := 20) Tryz.func59 rfl rfl rfl rfl rfl (by decide) fun g hro_ hwt_ => ?_; (try refine nz ?_)
    (refine Q335 ?_; refine Q309 ?_; refine zm ?_; refine zt ?_; refine zn ?_; refine zt ?_; refine AOps.leq rfl rfl rfl rfl rfl ?_; refine zT ?_; refine zm ?_; refine Q205 ?_; refine Q42 ?_)
    (apply ends_ret; (exact Res.one (.tmp rfl rfl)); (refine Le.litB ?_; (rfl)))
theorem inv24_fn (perm : List Int) (h : PermOk perm) (hn : perm.length ≤ 1000) : Fn Tryz.prog 30 [.pv (ints perm)] (.pv (ints (invM perm))) := by
  refine Fn.enter (n := 33) Tryz.func30 rfl rfl rfl rfl rfl (by decide) fun g hro_ hwt_ => ?_; (try refine nz ?_)
  (refine Q177 ?_; refine Q135 ?_)
  (refine nz ?_; apply AW.loopR [2, 0] [] (fun i : Nat => ([(4, litI ((i : Int) + 1)), (3, .own 0 3 1 (((invM perm).take i).map encI))] : List (Nat × AV))) (fun i : Nat => ([(0, some .row)] : List (Nat × Option Ob))) (fun i : Nat => i ≤ perm.length) (fun i : Nat => perm.length - i) (0); (conv => lhs; simp only [Nf.lpR, Nf.all, Nat.reduceBEq, reduceAdd, reduceSub]); (all_goals skip))
  · exact Nat.zero_le _
  · exact weak rfl (by (refine ⟨.eq rfl rfl, ?_⟩; refine ⟨.nilown _ _ _ rfl rfl, ?_⟩; (iterate 2 refine ⟨.eq rfl rfl, ?_⟩); exact trivial)) (by (refine ⟨.newrow rfl, ?_⟩; exact trivial)) rfl
  rintro i hi
  have hil := inv_len perm
  by_cases hlt : i < perm.length
  · have hsn := inv_snoc hlt
    have hr : 1 ≤ (i : Int) + 1 ∧ (i : Int) + 1 ≤ perm.length := by omega
    (refine Q91 ?_; refine Q266 ?_; refine Q299 ?_; refine zm ?_; refine Q135 ?_)
    (refine nz ?_; apply AW.loopR [4, 3, 2, 0] [] (fun k : Nat => ([(6, litI k), (5, litI (atM perm ((i : Int) + 1) k))] : List (Nat × AV))) (fun k : Nat => ([(0, some .row)] : List (Nat × Option Ob))) (fun k : Nat => k ≤ perm.length) (fun k : Nat => perm.length - k) (0); (conv => lhs; simp only [Nf.lpR, Nf.all, Nat.reduceBEq, reduceAdd, reduceSub]); (all_goals skip))
    · exact Nat.zero_le _
    · exact weak rfl (by (refine ⟨.intE (by first | with_reducible rfl | (first | rfl | (unfold atM; rw [if_neg (Nat.not_lt_zero _)]))), ?_⟩; refine ⟨.intE (by first | with_reducible rfl | (first | rfl | (unfold atM; rw [if_neg (Nat.not_lt_zero _)]))), ?_⟩; refine ⟨.intE (by first | with_reducible rfl | (first | rfl | (unfold atM; rw [if_neg (Nat.not_lt_zero _)]))), ?_⟩; refine ⟨.ownE (by first | with_reducible rfl | (first | rfl | (unfold atM; rw [if_neg (Nat.not_lt_zero _)]))) rfl, ?_⟩; refine ⟨.eq rfl rfl, ?_⟩; refine ⟨.pvE (by first | with_reducible rfl | (first | rfl | (unfold atM; rw [if_neg (Nat.not_lt_zero _)]))), ?_⟩; exact trivial)) (by (refine ⟨.row rfl, ?_⟩; exact trivial)) rfl
    rintro k hk
    by_cases hkl : k < perm.length
    · by_cases he : perm[k] = (i : Int) + 1
      · have ha := atM_hit h hkl he
        (refine Q204 ?_; (focus ((with_reducible apply AOps.index_map); (iterate 7 exact rfl); rotate_left; omega)); refine zr ?_; refine Q84 ?_; refine zd ?_; refine zc ?_; refine Q179 ?_; refine zm ?_; refine zj ?_; refine Q188 ?_)
        exact Q116
      · have ha := atM_miss h hkl he hr
        (refine Q204 ?_; (focus ((with_reducible apply AOps.index_map); (iterate 7 exact rfl); rotate_left; omega)); refine zr ?_; refine Q84 ?_; refine Q99 ?_)
        exact Q116
    · obtain rfl : k = perm.length := by omega
      rw [atM_end h hr]
      have htl : ((invM perm).take i).length ≤ 1000 := by rw [List.length_take]; omega
      (refine Q10 ?_; refine Q201 ?_; refine thenD_n ?_; refine Q339 ?_; (with_reducible apply AOps.appendS); exact rfl; (first | exact .pv rfl | exact .own rfl | exact .nil rfl); (iterate 9 exact rfl); (first | omega | (simp only [List.length_map, List.length_append, List.length_cons, List.length_nil, List.length_drop, List.length_take, List.length_set, chunk_len]; omega)); refine Q300 ?_)
      exact ⟨i + 1, by omega, by omega, weak rfl (by (refine ⟨.intE (by first | with_reducible rfl | (first | rfl | omega | (rw [hsn, List.map_append]; rfl))), ?_⟩; refine ⟨.ownE (by first | with_reducible rfl | (first | rfl | omega | (rw [hsn, List.map_append]; rfl))) rfl, ?_⟩; refine ⟨.eq rfl rfl, ?_⟩; refine ⟨.pvE (by first | with_reducible rfl | (first | rfl | omega | (rw [hsn, List.map_append]; rfl))), ?_⟩; exact trivial)) (by (refine ⟨.row rfl, ?_⟩; exact trivial)) rfl⟩
  · rw [take_all (l := invM perm) (by omega)]
    (refine Q91 ?_; refine Q266 ?_; refine zd ?_; refine Q44 ?_; refine Q96 ?_)
    (apply ends_ret; (exact Res.one (.tmp rfl rfl)); (exact Le.own _ _ _ _ rfl))
theorem img24_fn (vals : List Bool) (perm : List Int) (h : PermOk perm) (hn : perm.length ≤ 1000) : Fn Tryz.prog 21 [.pv (bools vals), .pv (ints perm)] (.pv (bools (imgM vals perm))) := by
  have hi := inv24_fn perm h hn
  refine Fn.enter (n := 26) Tryz.func21 rfl rfl rfl rfl rfl (by decide) fun g hro_ hwt_ => ?_; (try refine nz ?_)
  (refine Q335 ?_; refine zP (hi) ?_; refine Q51 ?_; refine Q135 ?_)
  (refine nz ?_; apply AW.loopR [5, 4, 0, 1] [] (fun k : Nat => ([(7, litI k), (6, .own 0 4 1 (((imgM vals perm).take k).map encB))] : List (Nat × AV))) (fun k : Nat => ([(0, some .row)] : List (Nat × Option Ob))) (fun k : Nat => k ≤ perm.length) (fun k : Nat => perm.length - k) (0); (conv => lhs; simp only [Nf.lpR, Nf.all, Nat.reduceBEq, reduceAdd, reduceSub]); (all_goals skip))
  · exact Nat.zero_le _
  · exact weak rfl (by (refine ⟨.eq rfl rfl, ?_⟩; refine ⟨.nilown _ _ _ rfl rfl, ?_⟩; (iterate 4 refine ⟨.eq rfl rfl, ?_⟩); exact trivial)) (by (refine ⟨.newrow rfl, ?_⟩; exact trivial)) rfl
  rintro k hk
  have hil := inv_len perm
  have him := img_len vals perm
  have htl : ((imgM vals perm).take k).length ≤ 1000 := by rw [List.length_take]; omega
  by_cases hlt : k < perm.length
  · have hb : 1 ≤ (invM perm)[k]'(by omega) ∧ (invM perm)[k]'(by omega) ≤ 1000000 := by
      have hx := inv_at (perm := perm) (w := (k : Int) + 1) (by omega) (by omega)
      have e : (((k : Int) + 1) - 1).toNat = k := by omega
      simp only [e] at hx
      rw [hx]
      have := h.back (w := (k : Int) + 1) (by omega)
      omega
    have hv := val24_fn vals _ hb
    have hsn : (imgM vals perm).take (k + 1) = (imgM vals perm).take k ++ [inV vals ((invM perm)[k]'(by omega))] := by
      rw [take_succ_get (by omega)]
      congr 2
      simp [imgM]
    (refine Q10 ?_; refine Q3 ?_; refine Q85 ?_; (iterate 3 refine zm ?_); (focus ((with_reducible apply AOps.index_map); (iterate 7 exact rfl); rotate_left; omega)); refine zr ?_; refine zA (hv) ?_; refine Q50 ?_; (with_reducible apply AOps.appendS); exact rfl; (first | exact .pv rfl | exact .own rfl | exact .nil rfl); (iterate 9 exact rfl); (first | omega | (simp only [List.length_map, List.length_append, List.length_cons, List.length_nil, List.length_drop, List.length_take, List.length_set, chunk_len]; omega)); refine Q300 ?_)
    exact ⟨k + 1, by omega, by omega, weak rfl (by (refine ⟨.intE (by first | with_reducible rfl | (first | rfl | (rw [hsn, List.map_append]; rfl))), ?_⟩; refine ⟨.ownE (by first | with_reducible rfl | (first | rfl | (rw [hsn, List.map_append]; rfl))) rfl, ?_⟩; refine ⟨.pvE (by first | with_reducible rfl | (first | rfl | (rw [hsn, List.map_append]; rfl))), ?_⟩; refine ⟨.eq rfl rfl, ?_⟩; refine ⟨.pvE (by first | with_reducible rfl | (first | rfl | (rw [hsn, List.map_append]; rfl))), ?_⟩; refine ⟨.pvE (by first | with_reducible rfl | (first | rfl | (rw [hsn, List.map_append]; rfl))), ?_⟩; exact trivial)) (by (refine ⟨.row rfl, ?_⟩; exact trivial)) rfl⟩
  · rw [take_all (l := imgM vals perm) (by omega)]
    (refine Q10 ?_; refine Q44 ?_; refine Q96 ?_)
    (apply ends_ret; (exact Res.one (.tmp rfl rfl)); (exact Le.own _ _ _ _ rfl))
theorem ng24_fn (x y : List Bool) (o : List Int) (ho : ∀ w ∈ o, 1 ≤ w ∧ w ≤ 1000000) (hl : o.length ≤ 1000000) : Fn Tryz.prog 39 [.pv (bools x), .pv (bools y), .pv (ints o)] (litB (ngF (inV x) (inV y) o)) := by
  refine Fn.enter (n := 32) Tryz.func39 rfl rfl rfl rfl rfl (by decide) fun g hro_ hwt_ => ?_; (try refine nz ?_)
  (refine zq ?_; refine Q135 ?_)
  (refine nz ?_; apply AW.loopR [0, 1, 2] [] (fun i : Nat => ([(7, litI i)] : List (Nat × AV))) (fun i : Nat => ([] : List (Nat × Option Ob))) (fun i : Nat => i ≤ o.length ∧ ngF (inV x) (inV y) (o.drop i) = ngF (inV x) (inV y) o) (fun i : Nat => o.length - i) (0); (conv => lhs; simp only [Nf.lpR, Nf.all, Nat.reduceBEq, reduceAdd, reduceSub]); (all_goals skip))
  · exact ⟨Nat.zero_le _, rfl⟩
  · exact weak rfl (by (refine ⟨.eq rfl rfl, ?_⟩; (iterate 3 refine ⟨.eq rfl rfl, ?_⟩); exact trivial)) (by (exact trivial)) rfl
  rintro i ⟨hi, he⟩
  by_cases hlt : i < o.length
  · have h1 := val24_fn x o[i] (ho _ (List.getElem_mem hlt))
    have h2 := val24_fn y o[i] (ho _ (List.getElem_mem hlt))
    by_cases hx : inV x o[i] = inV y o[i]
    · have hq := ng_eq hlt hx
      rw [he] at hq
      (refine Q10 ?_; refine Q94 ?_; (iterate 3 refine zm ?_); (focus ((with_reducible apply AOps.index_map); (iterate 7 exact rfl); rotate_left; omega)); refine zr ?_; refine zA (h1) ?_; refine Q51 ?_; (iterate 3 refine zm ?_); (focus ((with_reducible apply AOps.index_map); (iterate 7 exact rfl); rotate_left; omega)); refine zr ?_; refine zA (h2) ?_; refine Q51 ?_; refine Q313 ?_; refine zd ?_; (focus ((with_reducible apply AW.condD); exact rfl; exact rfl; all_goals intro hc_)); refine Q4 ?_; refine zm ?_; refine Q200 ?_; (all_goals skip); rotate_left; refine AW.skip ?_; refine Q29 ?_; (all_goals skip); rotate_left)
      · exact absurd hx hc_
      · exact ⟨i + 1, ⟨by omega, hq⟩, by omega, weak rfl (by (refine ⟨.eq rfl rfl, ?_⟩; (iterate 3 refine ⟨.eq rfl rfl, ?_⟩); exact trivial)) (by (exact trivial)) rfl⟩
    · have hq := ng_ne hlt hx
      rw [he] at hq
      rw [hq]
      (refine Q10 ?_; refine Q94 ?_; (iterate 3 refine zm ?_); (focus ((with_reducible apply AOps.index_map); (iterate 7 exact rfl); rotate_left; omega)); refine zr ?_; refine zA (h1) ?_; refine Q51 ?_; (iterate 3 refine zm ?_); (focus ((with_reducible apply AOps.index_map); (iterate 7 exact rfl); rotate_left; omega)); refine zr ?_; refine zA (h2) ?_; refine Q51 ?_; refine Q313 ?_; refine Q334 ?_; refine Q200 ?_)
      (apply ends_ret; (exact Res.one (.tmp rfl rfl)); (refine Le.litB ?_; (rfl)))
  · have hd : ngF (inV x) (inV y) (o.drop i) = true := by rw [List.drop_eq_nil_of_le (by omega)]; unfold ngF; rfl
    rw [← he, hd]
    (refine Q10 ?_; refine Q189 ?_)
    (apply ends_ret; (exact Res.one (.tmp rfl rfl)); (refine Le.litB ?_; (rfl)))
end Go.Ab
/- Chapter 19: the reference's circuits, walked. -/
namespace Go.Ab
open Go Go.Proofs
open Nat (reduceAdd reduceSub)
set_option maxRecDepth 20000
set_option maxHeartbeats 4000000
attribute [local irreducible] AW AOps thenD inBlockD AR iterEnds roundEndsN inlEnds noGotoD
theorem gAny_snoc {gs : List GateM} {g : GateM} {k : Nat} (hk : k < gs.length) : (gs.take (k + 1)).any (fun h => decide (h = g)) = ((gs.take k).any (fun h => decide (h = g)) || decide (gs[k] = g)) := by
  rw [take_succ_get hk, List.any_append]; simp
theorem findG_yes {gs : List GateM} {g : GateM} {k : Nat} (hk : k < gs.length) (h0 : (gs.take k).any (fun h => decide (h = g)) = false) (he : gs[k] = g) : findG gs g = (k : Int) := by
  have h1 : gs.any (fun h => decide (h = g)) = true := List.any_eq_true.2 ⟨gs[k], List.getElem_mem hk, by simpa using he⟩
  unfold findG
  rw [if_pos h1]
  congr 1
  rw [List.findIdx_eq (by exact hk)]
  refine ⟨by simpa using he, fun j hj => ?_⟩
  rw [List.any_eq_false] at h0
  have := h0 gs[j] (List.mem_take_iff_getElem.2 ⟨j, by omega, rfl⟩)
  simpa using this
theorem findG_no {gs : List GateM} {g : GateM} (h0 : gs.any (fun h => decide (h = g)) = false) : findG gs g = -1 := by
  unfold findG
  rw [if_neg (by rw [h0]; simp)]
theorem gate_eq {x y : GateM} : x = y ↔ x.k = y.k ∧ x.a = y.a ∧ x.b = y.b := by
  cases x; cases y; simp
abbrev gtV (g : GateM) : AV := .agg [litI g.k, litI g.a, litI g.b]
theorem c13New_fn : Fn Tryz.prog 26 [] (crc [⟨0, 0, 0⟩]) := by
  refine Fn.enter (n := 4) Tryz.func26 rfl rfl rfl rfl rfl (by decide) fun g hro_ hwt_ => ?_; (try refine nz ?_)
  (refine zq ?_; refine Q9 ?_; refine Q326 ?_; refine AOps.buildN 87 [] rfl rfl rfl rfl rfl rfl rfl rfl rfl ?_; refine nz ?_; refine Q95 ?_; refine AOps.buildN 44 [0] rfl rfl rfl rfl rfl rfl rfl rfl rfl ?_; refine nz ?_; refine Q62 ?_; refine zd ?_; refine AW.ret ?_)
  (apply ends_ret; (exact Res.one (.cell rfl rfl rfl rfl)); (refine Le.aggL ?_; refine LeL.cons ?_ ?_; exact Le.own _ _ _ _ rfl; exact LeL.nil))
theorem c13Not_fn (r : Int) (hr : -1000000 ≤ r ∧ r ≤ 1000000) : Fn Tryz.prog 33 [litI r] (litI (notR r)) := by
  refine Fn.enter (n := 12) Tryz.func33 rfl rfl rfl rfl rfl (by decide) fun g hro_ hwt_ => ?_; (try refine nz ?_)
  unfold notR
  by_cases h0 : r < 0
  · rw [if_pos h0]
    (refine zq ?_; refine Q214 ?_; refine zs ?_; refine Q83 ?_; refine Q57 ?_)
    (apply ends_ret; (exact Res.one (.tmp rfl rfl)); (refine Le.litI ?_; (rfl)))
  · rw [if_neg h0]
    by_cases h1 : r % 2 = 0
    · rw [if_pos h1]
      (refine zq ?_; refine Q214 ?_; refine zs ?_; refine Q234 ?_; refine zm ?_; refine AOps.remE rfl rfl rfl rfl rfl (by omega) ?_; refine AOps.eql rfl rfl rfl rfl rfl ?_; refine Q334 ?_; refine zj ?_; refine Q57 ?_)
      (apply ends_ret; (exact Res.one (.tmp rfl rfl)); (refine Le.litI ?_; (rfl)))
    · rw [if_neg h1]
      (refine zq ?_; refine Q214 ?_; refine zs ?_; refine Q234 ?_; refine zm ?_; refine AOps.remE rfl rfl rfl rfl rfl (by omega) ?_; refine AOps.eql rfl rfl rfl rfl rfl ?_; refine Q184 ?_; refine Q190 ?_; refine Q42 ?_)
      (apply ends_ret; (exact Res.one (.tmp rfl rfl)); (refine Le.litI ?_; (rfl)))
theorem find_fn (gs : List GateM) (x : GateM) : Fn Tryz.prog 115 [crc gs, gtV x] (litI (findG gs x)) := by
  refine Fn.enter (n := 21) Tryz.func115 rfl rfl rfl rfl rfl (by decide) fun g hro_ hwt_ => ?_; (try refine nz ?_)
  refine AW.len_agg 0 0 rfl rfl fun hlen => ?_
  (refine Q105 ?_; refine Q135 ?_)
  (refine nz ?_; apply AW.loopR [3, 2] [1, 0] (fun k : Nat => ([(5, litI k)] : List (Nat × AV))) (fun k : Nat => ([] : List (Nat × Option Ob))) (fun k : Nat => k ≤ gs.length ∧ (gs.take k).any (fun h => decide (h = x)) = false) (fun k : Nat => gs.length - k) (0); (conv => lhs; simp only [Nf.lpR, Nf.all, Nat.reduceBEq, reduceAdd, reduceSub]); (all_goals skip))
  · exact ⟨Nat.zero_le _, rfl⟩
  · exact weak rfl (by (refine ⟨.eq rfl rfl, ?_⟩; (iterate 2 refine ⟨.eq rfl rfl, ?_⟩); exact trivial)) (by (refine ⟨.box _ rfl ?_, ?_⟩; (iterate 3 refine ⟨.eq rfl rfl, ?_⟩); exact trivial; refine ⟨.box _ rfl ?_, ?_⟩; refine ⟨.eq rfl rfl, ?_⟩; (iterate 2 exact trivial))) rfl
  rintro k ⟨hk, hno⟩
  by_cases hlt : k < gs.length
  · have hs := gAny_snoc (g := x) hlt
    rw [hno, Bool.false_or] at hs
    by_cases he : gs[k] = x
    · have h1 := findG_yes hlt hno he
      have h2 := gate_eq.1 he
      rw [h1]
      (refine Q98 ?_; refine Q47 ?_; refine Q86 ?_; refine Q287 ?_; refine zo ?_; (with_reducible apply AW.regionQ); exact rfl; exact rfl; kernel_rfl; (with_reducible assumption); refine Q47 ?_; refine zm ?_; (focus ((with_reducible apply AOps.index_map); (iterate 7 exact rfl); rotate_left; omega)); refine Q253 ?_; refine Q334 ?_; refine Q200 ?_)
      (apply ends_ret; (exact Res.one (.tmp rfl rfl)); (refine Le.litI ?_; (rfl)))
    · rw [decide_eq_false he] at hs
      have h2 : ¬ (gs[k].k = x.k ∧ gs[k].a = x.a ∧ gs[k].b = x.b) := fun h => he (gate_eq.2 h)
      (refine Q98 ?_; refine Q47 ?_; refine Q86 ?_; refine Q287 ?_; refine zo ?_; (with_reducible apply AW.regionQ); exact rfl; exact rfl; kernel_rfl; (with_reducible assumption); refine Q47 ?_; refine zm ?_; (focus ((with_reducible apply AOps.index_map); (iterate 7 exact rfl); rotate_left; omega)); refine Q253 ?_; refine Q99 ?_)
      exact ⟨k + 1, ⟨by omega, hs⟩, by omega, weak rfl (by (refine ⟨.eq rfl rfl, ?_⟩; (iterate 2 refine ⟨.eq rfl rfl, ?_⟩); exact trivial)) (by (refine ⟨.box _ rfl ?_, ?_⟩; (iterate 3 refine ⟨.eq rfl rfl, ?_⟩); exact trivial; refine ⟨.box _ rfl ?_, ?_⟩; refine ⟨.eq rfl rfl, ?_⟩; (iterate 2 exact trivial))) rfl⟩
  · rw [take_all (l := gs) (by omega)] at hno
    rw [findG_no hno]
    (refine Q98 ?_; refine Q47 ?_; refine Q86 ?_; refine zd ?_; refine Q189 ?_)
    (apply ends_ret; (exact Res.one (.tmp rfl rfl)); (refine Le.litI ?_; (rfl)))
end Go.Ab
/- Chapter 19: the reference's circuits built, walked. -/
namespace Go.Ab
open Go Go.Proofs
open Nat (reduceAdd reduceSub)
set_option maxRecDepth 20000
set_option maxHeartbeats 4000000
attribute [local irreducible] AW AOps thenD inBlockD AR iterEnds roundEndsN inlEnds noGotoD findG
theorem share_fn (gs : List GateM) (x : GateM) (hl : gs.length ≤ 1000000) : Fn Tryz.prog 81 [crc gs, gtV x] (.tup [crc (shareG gs x).1, litI (shareG gs x).2]) := by
  have hf := find_fn gs x
  have hr := findG_range (gs := gs) (g := x)
  unfold shareG
  generalize findG gs x = i at hf hr ⊢
  refine Fn.enter (n := 35) Tryz.func81 rfl rfl rfl rfl rfl (by decide) fun g hro_ hwt_ => ?_; (try refine nz ?_)
  by_cases h0 : 0 ≤ i
  · rw [if_pos h0]
    (refine Q278 ?_; refine AOps.geq rfl rfl rfl rfl rfl ?_; refine Q83 ?_; refine Q202 ?_; refine AOps.mul rfl rfl rfl rfl rfl (by omega) ?_; refine Q62 ?_; refine Q57 ?_)
    (apply ends_ret; (exact Res.two (.cell rfl rfl rfl rfl) (.tmp rfl rfl)); (refine Le.tupL ?_; refine LeL.cons ?_ ?_; refine Le.aggL ?_; refine LeL.cons ?_ ?_; (with_reducible exact Le.pv _); exact LeL.nil; refine LeL.cons ?_ ?_; refine Le.litI ?_; (rfl); exact LeL.nil))
  · rw [if_neg h0]
    by_cases h1 : 20000 ≤ gs.length
    · rw [if_pos h1]
      (refine Q278 ?_; refine Q168 ?_; refine Q83 ?_; refine Q161 ?_)
      (apply ends_ret; (exact Res.two (.cell rfl rfl rfl rfl) (.tmp rfl rfl)); (refine Le.tupL ?_; refine LeL.cons ?_ ?_; refine Le.aggL ?_; refine LeL.cons ?_ ?_; (with_reducible exact Le.pv _); exact LeL.nil; refine LeL.cons ?_ ?_; refine Le.litI ?_; (rfl); exact LeL.nil))
    · rw [if_neg h1]
      (refine Q278 ?_; refine Q168 ?_; refine Q184 ?_; refine Q51 ?_; refine zm ?_; refine Q47 ?_; (with_reducible apply AOps.append_nilS); exact rfl; (first | exact .pv rfl | exact .own rfl | exact .nil rfl); (iterate 8 exact rfl); (first | omega | (simp only [List.length_map, List.length_append, List.length_cons, List.length_nil, List.length_drop, List.length_take, List.length_set, chunk_len]; omega)); refine Q324 ?_; refine Q41 ?_; refine Q95 ?_; (with_reducible apply AOps.appendS); exact rfl; (first | exact .pv rfl | exact .own rfl | exact .nil rfl); (iterate 9 exact rfl); (first | omega | (simp only [List.length_map, List.length_append, List.length_cons, List.length_nil, List.length_drop, List.length_take, List.length_set, chunk_len]; omega)); refine nz ?_; refine Q31 ?_; refine zo ?_; refine AW.regionM [0, 1] [6] rfl (by assumption) (by kernel_rfl) (by kernel_rfl) rfl ?_; show AOps .held _ _ _ [_, _] _ _; refine AOps.move_own rfl rfl rfl ?_; refine AOps.buildN 44 [0] rfl rfl rfl rfl rfl rfl rfl rfl rfl ?_; refine Q121 ?_; intro k_ hk_; refine AR.free 2 (by kernel_rfl) rfl rfl rfl (Frees.fieldAddr _ _ 0 rfl rfl rfl) ?_; (try refine nz ?_); apply AR.cut [2, 1, 0, 3, 4, 5, 6]; intro hJ_0; apply AR.cut [2, 1, 0, 3, 4, 6]; intro hJ_1; apply AR.cut [2, 1, 0, 3, 6]; intro hJ_2; (refine AR.step2L (i := 3) (j := 6) rfl (by kernel_rfl) rfl rfl (by kernel_rfl) ?_ ?_ <;> intro g_ hgro_ hwt2_); refine zb ?_; refine Q7 ?_; (refine AR.step2L (i := 4) (j := 6) rfl (by kernel_rfl) rfl rfl (by kernel_rfl) ?_ ?_ <;> intro g_ hgro_ hwt2_); refine zn ?_; refine Q7 ?_; (refine AR.step2L (i := 5) (j := 6) rfl (by kernel_rfl) rfl rfl (by kernel_rfl) ?_ ?_ <;> intro g_ hgro_ hwt2_); refine AOps.mul rfl rfl rfl rfl rfl (by omega) ?_; refine Q7 ?_; refine Q124 ?_; intro g_ hgro_ hwt2_; refine Q62 ?_; refine Q1 ?_; exact AR.perm (by kernel_rfl) hJ_0; refine Q62 ?_; refine Q1 ?_; exact AR.perm (by kernel_rfl) hJ_1; refine Q62 ?_; refine Q1 ?_; exact AR.perm (by kernel_rfl) hJ_2; refine Q292 ?_; refine AR.step1LM (i := 3) rfl (by kernel_rfl) rfl (by kernel_rfl) ?_; intro g_ hgro_ hwt2_; refine zb ?_; refine Q40 ?_; refine AR.meet hJ_2 (by kernel_rfl) (fun g_ => weak rfl ?_ ?_ rfl); (iterate 8 refine ⟨.eq rfl rfl, ?_⟩); (iterate 2 refine ⟨.any _, ?_⟩); exact Q273; exact Q180; refine Q285 ?_; intro g_ hgro_ hwt2_; refine zn ?_; refine Q40 ?_; refine AR.meet hJ_1 (by kernel_rfl) (fun g_ => weak rfl ?_ ?_ rfl); (iterate 9 refine ⟨.eq rfl rfl, ?_⟩); (iterate 2 refine ⟨.any _, ?_⟩); exact Q273; exact Q180; refine AR.step1LM (i := 5) rfl (by kernel_rfl) rfl (by kernel_rfl) ?_; intro g_ hgro_ hwt2_; refine Q257 ?_; refine AR.meet hJ_0 (by kernel_rfl) (fun g_ => weak rfl ?_ ?_ rfl); (iterate 10 refine ⟨.eq rfl rfl, ?_⟩); (iterate 2 refine ⟨.any _, ?_⟩); exact Q273; exact Q180; refine AR.step1LM (i := 7) rfl (by kernel_rfl) rfl (by kernel_rfl) ?_; intro g_ hgro_ hwt2_; refine Q133 ?_; refine AW.ret ?_)
      (apply ends_ret; (exact Res.two (.cell rfl rfl rfl rfl) (.tmp rfl rfl)); (refine Le.tupL ?_; refine LeL.cons ?_ ?_; refine Le.aggL ?_; refine LeL.cons ?_ ?_; refine Le.ownE ?_; (first | rfl | (rw [List.map_append]; rfl)); exact LeL.nil; refine LeL.cons ?_ ?_; refine Le.litI ?_; (first | rfl | (rw [List.map_append]; rfl)); exact LeL.nil))
theorem input_fn (gs : List GateM) (v : Int) (hl : gs.length ≤ 1000000) : Fn Tryz.prog 31 [crc gs, litI v] (.tup [crc (inputG gs v).1, litI (inputG gs v).2]) := by
  have hs := share_fn gs ⟨1, v, 0⟩ hl
  unfold inputG
  refine Fn.enter (n := 19) Tryz.func31 rfl rfl rfl rfl rfl (by decide) fun g hro_ hwt_ => ?_; (try refine nz ?_)
  by_cases h0 : v < 1 ∨ 20000 < v
  · rw [if_pos h0]
    (refine Q64 ?_; refine Q9 ?_; refine Q214 ?_; refine zs ?_; refine zm ?_; (focus ((with_reducible apply AOps.guardF); (iterate 6 exact rfl); all_goals intro hc_)); refine zm ?_; refine Q36 ?_; refine Q83 ?_; refine Q161 ?_; (all_goals skip); rotate_left; refine Q224 ?_; refine Q216 ?_; refine Q161 ?_; (all_goals skip); rotate_left)
    all_goals (apply ends_ret; (exact Res.two (.cell rfl rfl rfl rfl) (.tmp rfl rfl)); (refine Le.tupL ?_; refine LeL.cons ?_ ?_; refine Le.aggL ?_; refine LeL.cons ?_ ?_; (with_reducible exact Le.pv _); exact LeL.nil; refine LeL.cons ?_ ?_; refine Le.litI ?_; (rfl); exact LeL.nil))
  · rw [if_neg h0]
    have h1 : ¬ v < 1 := by omega
    have h2 : ¬ 20000 < v := by omega
    (refine Q247 ?_; refine nz ?_; refine zP (hs) ?_; refine Q172 ?_)
    (apply ends_ret; (exact Res.two (.cell rfl rfl rfl rfl) (.tmp rfl rfl)); (refine Le.tupL ?_; refine LeL.cons ?_ ?_; refine Le.aggL ?_; refine LeL.cons ?_ ?_; (with_reducible exact Le.pv _); exact LeL.nil; refine LeL.cons ?_ ?_; refine Le.litI ?_; (rfl); exact LeL.nil))
theorem and_fn (gs : List GateM) (a b : Int) (hl : gs.length ≤ 400000) (ha : -1000000 ≤ a ∧ a ≤ 1000000) (hb : -1000000 ≤ b ∧ b ≤ 1000000) : Fn Tryz.prog 32 [crc gs, litI a, litI b] (.tup [crc (andG gs a b).1, litI (andG gs a b).2]) := by
  have hs := share_fn gs ⟨2, min a b, max a b⟩ (by omega)
  have hn := c13Not_fn a ha
  have hnn : notR a = notR a := rfl
  unfold andG
  generalize notR a = na at hn ⊢
  refine Fn.enter (n := 67) Tryz.func32 rfl rfl rfl rfl rfl (by decide) fun g hro_ hwt_ => ?_; (try refine nz ?_)
  by_cases h0 : a < 0 ∨ b < 0 ∨ 2 * (gs.length : Int) ≤ a ∨ 2 * (gs.length : Int) ≤ b
  · rw [if_pos h0]
    (refine Q64 ?_; refine Q9 ?_; refine Q51 ?_; refine Q47 ?_; refine zn ?_; refine AOps.mul rfl rfl rfl rfl rfl (by omega) ?_; refine Q214 ?_; refine zs ?_; refine zm ?_; (focus ((with_reducible apply AOps.guardF); (iterate 6 exact rfl); all_goals intro hc_)); refine Q131 ?_; refine zs ?_; refine zF ?_; refine zm ?_; (focus ((with_reducible apply AOps.guardF); (iterate 6 exact rfl); all_goals intro hc_)); refine Q13 ?_; refine Q195 ?_; refine zm ?_; (focus ((with_reducible apply AOps.guardF); (iterate 6 exact rfl); all_goals intro hc_)); refine Q13 ?_; refine Q195 ?_; refine Q83 ?_; refine Q161 ?_; (all_goals skip); rotate_left; refine Q129 ?_; refine Q216 ?_; refine Q161 ?_; (all_goals skip); rotate_left; refine Q129 ?_; refine zm ?_; refine Q151 ?_; refine Q216 ?_; refine Q161 ?_; (all_goals skip); rotate_left; refine Q224 ?_; refine zm ?_; refine Q151 ?_; refine zm ?_; refine Q151 ?_; refine Q216 ?_; refine Q161 ?_; (all_goals skip); rotate_left)
    all_goals (apply ends_ret; (exact Res.two (.cell rfl rfl rfl rfl) (.tmp rfl rfl)); (refine Le.tupL ?_; refine LeL.cons ?_ ?_; refine Le.aggL ?_; refine LeL.cons ?_ ?_; (with_reducible exact Le.pv _); exact LeL.nil; refine LeL.cons ?_ ?_; refine Le.litI ?_; (rfl); exact LeL.nil))
  · rw [if_neg h0]
    have h1 : ¬ a < 0 := by omega
    have h2 : ¬ b < 0 := by omega
    have h3 : ¬ 2 * (gs.length : Int) ≤ a := by omega
    have h4 : ¬ 2 * (gs.length : Int) ≤ b := by omega
    by_cases h5 : a = 1 ∨ b = 1 ∨ b = na
    · rw [if_pos h5]
      (refine Q73 ?_; refine zm ?_; (focus ((with_reducible apply AOps.guardF); (iterate 6 exact rfl); all_goals intro hc_)); refine Q131 ?_; refine Q230 ?_; refine zm ?_; (focus ((with_reducible apply AOps.guardF); (iterate 6 exact rfl); all_goals intro hc_)); refine Q13 ?_; refine zA (hn) ?_; refine zy ?_; refine Q230 ?_; refine Q83 ?_; refine Q161 ?_; (all_goals skip); rotate_left; refine Q198 ?_; refine Q216 ?_; refine Q161 ?_; (all_goals skip); rotate_left; refine Q224 ?_; refine zm ?_; refine Q125 ?_; refine Q216 ?_; refine Q161 ?_; (all_goals skip); rotate_left)
      all_goals (apply ends_ret; (exact Res.two (.cell rfl rfl rfl rfl) (.tmp rfl rfl)); (refine Le.tupL ?_; refine LeL.cons ?_ ?_; refine Le.aggL ?_; refine LeL.cons ?_ ?_; (with_reducible exact Le.pv _); exact LeL.nil; refine LeL.cons ?_ ?_; refine Le.litI ?_; (rfl); exact LeL.nil))
    · rw [if_neg h5]
      have k1 : ¬ a = 1 := by omega
      have k2 : ¬ b = 1 := by omega
      have k3 : ¬ b = na := by omega
      by_cases h6 : a = 0
      · rw [if_pos h6]
        (refine Q73 ?_; refine Q53 ?_; refine Q234 ?_; refine Q84 ?_; refine Q83 ?_; refine Q202 ?_; refine Q62 ?_; refine Q57 ?_)
        (apply ends_ret; (exact Res.two (.cell rfl rfl rfl rfl) (.tmp rfl rfl)); (refine Le.tupL ?_; refine LeL.cons ?_ ?_; refine Le.aggL ?_; refine LeL.cons ?_ ?_; (with_reducible exact Le.pv _); exact LeL.nil; refine LeL.cons ?_ ?_; refine Le.litI ?_; (rfl); exact LeL.nil))
      · rw [if_neg h6]
        by_cases h7 : b = 0 ∨ a = b
        · rw [if_pos h7]
          (refine Q73 ?_; refine Q53 ?_; refine Q234 ?_; refine Q84 ?_; refine Q234 ?_; refine Q84 ?_; refine zm ?_; (focus ((with_reducible apply AOps.guardF); (iterate 6 exact rfl); all_goals intro hc_)); refine Q13 ?_; refine Q230 ?_; refine Q83 ?_; refine Q202 ?_; refine Q62 ?_; refine Q57 ?_; (all_goals skip); rotate_left; refine Q129 ?_; refine Q216 ?_; refine Q202 ?_; refine Q62 ?_; refine Q57 ?_; (all_goals skip); rotate_left)
          all_goals (apply ends_ret; (exact Res.two (.cell rfl rfl rfl rfl) (.tmp rfl rfl)); (refine Le.tupL ?_; refine LeL.cons ?_ ?_; refine Le.aggL ?_; refine LeL.cons ?_ ?_; (with_reducible exact Le.pv _); exact LeL.nil; refine LeL.cons ?_ ?_; refine Le.litI ?_; (rfl); exact LeL.nil))
        · rw [if_neg h7]
          have m1 : ¬ b = 0 := by omega
          have m2 : ¬ a = b := by omega
          (refine Q73 ?_; refine Q53 ?_; refine Q234 ?_; refine Q84 ?_; refine Q234 ?_; refine Q84 ?_; refine Q13 ?_; refine Q131 ?_; refine Q230 ?_; refine Q184 ?_; refine Q302 ?_; refine nz ?_; refine zP (hs) ?_; refine Q172 ?_)
          (apply ends_ret; (exact Res.two (.cell rfl rfl rfl rfl) (.tmp rfl rfl)); (refine Le.tupL ?_; refine LeL.cons ?_ ?_; refine Le.aggL ?_; refine LeL.cons ?_ ?_; (with_reducible exact Le.pv _); exact LeL.nil; refine LeL.cons ?_ ?_; refine Le.litI ?_; (rfl); exact LeL.nil))
theorem notR_b {r : Int} (h : -500000 ≤ r ∧ r ≤ 500000) : -500001 ≤ notR r ∧ notR r ≤ 500001 := by unfold notR; split <;> (try split) <;> omega
theorem or_fn (gs : List GateM) (a b : Int) (hl : gs.length ≤ 100000) (ha : -500000 ≤ a ∧ a ≤ 500000) (hb : -500000 ≤ b ∧ b ≤ 500000) (ho : -1000000 ≤ (andG gs (notR a) (notR b)).2 ∧ (andG gs (notR a) (notR b)).2 ≤ 1000000) : Fn Tryz.prog 34 [crc gs, litI a, litI b] (.tup [crc (orG gs a b).1, litI (orG gs a b).2]) := by
  have h1 := c13Not_fn a (by omega)
  have h2 := c13Not_fn b (by omega)
  have b1 := notR_b ha
  have b2 := notR_b hb
  have h3 := and_fn gs (notR a) (notR b) (by omega) (by omega) (by omega)
  unfold orG
  generalize andG gs (notR a) (notR b) = p at h3 ho ⊢
  generalize notR a = na at h1 h3 b1
  generalize notR b = nb at h2 h3 b2
  obtain ⟨gs', r⟩ := p
  simp only at h3 ho ⊢
  have h4 := c13Not_fn r ho
  generalize notR r = nr at h4 ⊢
  refine Fn.enter (n := 22) Tryz.func34 rfl rfl rfl rfl rfl (by decide) fun g hro_ hwt_ => ?_; (try refine nz ?_)
  (refine Q64 ?_; refine Q9 ?_; refine Q5 ?_; refine zo ?_; refine AW.regionM [0, 1, 3] [10] rfl (by assumption) (by kernel_rfl) (by kernel_rfl) rfl ?_; show AOps .held _ _ _ [_, _, _] _ _; refine Q80 ?_; refine Q7 ?_; intro k_ hk_; refine nz ?_; apply AR.cut [3, 1, 0, 2, 4, 5, 6, 7, 8, 9, 10]; intro hJ_0; apply AR.cut [3, 1, 0, 2, 4, 5, 6, 7, 8, 9]; intro hJ_1; apply AR.cut [3, 1, 0, 2, 4, 5, 6, 7, 9]; intro hJ_2; apply AR.cut [3, 1, 0, 2, 4, 5, 6, 8, 9]; intro hJ_3; apply AR.cut [3, 1, 0, 2, 4, 5, 6, 7, 8]; intro hJ_4; apply AR.cut [3, 1, 0, 2, 4, 5, 6, 9]; intro hJ_5; apply AR.cut [3, 1, 0, 2, 4, 9]; intro hJ_6; apply AR.cut [3, 1, 0, 2, 9]; intro hJ_7; (refine AR.step2M (i := 2) (j := 9) rfl (by kernel_rfl) rfl rfl ?_ ?_ <;> intro g_ hgro_ hw_); refine zA (h1) ?_; refine Q7 ?_; (refine AR.step2M (i := 4) (j := 9) rfl (by kernel_rfl) rfl rfl ?_ ?_ <;> intro g_ hgro_ hw_); refine zA (h2) ?_; refine Q7 ?_; (refine AR.step2M (i := 5) (j := 9) rfl (by kernel_rfl) rfl rfl ?_ ?_ <;> intro g_ hgro_ hw_); refine zP (h3) ?_; refine Q7 ?_; (refine AR.step2M (i := 6) (j := 9) rfl (by kernel_rfl) rfl rfl ?_ ?_ <;> intro g_ hgro_ hw_); refine Q149 ?_; (refine AR.step3M (i := 7) (j := 8) (m := 9) rfl (by kernel_rfl) rfl rfl rfl ?_ ?_ ?_ <;> intro g_ hgro_ hw_); refine Q77 ?_; (refine AR.step2M (i := 8) (j := 9) rfl (by kernel_rfl) rfl rfl ?_ ?_ <;> intro g_ hgro_ hw_); refine Q49 ?_; exact AR.perm (by kernel_rfl) hJ_4; refine Q90 ?_; exact AR.perm (by kernel_rfl) hJ_2; refine Q77 ?_; (refine AR.step2M (i := 7) (j := 9) rfl (by kernel_rfl) rfl rfl ?_ ?_ <;> intro g_ hgro_ hw_); refine Q18 ?_; refine AR.meet hJ_4 (by kernel_rfl) (fun g_ => weak rfl ?_ ?_ rfl); exact Q183; refine Q16 ?_; exact Q8; exact Q282; exact Q271; refine Q9 ?_; refine Q199 ?_; intro g_ hgro_ hw_; refine Q79 ?_; refine AR.meet hJ_5 (by kernel_rfl) (fun g_ => weak rfl ?_ ?_ rfl); exact Q208; exact Q249; exact Q243; refine Q90 ?_; exact AR.perm (by kernel_rfl) hJ_7; refine Q9 ?_; refine Q255 ?_; intro g_ hgro_ hw_; refine zA (h1) ?_; refine Q40 ?_; refine AR.meet hJ_7 (by kernel_rfl) (fun g_ => weak rfl ?_ ?_ rfl); exact Q254; exact Q249; refine AR.step1M (i := 4) rfl (by kernel_rfl) rfl ?_; intro g_ hgro_ hw_; refine zA (h2) ?_; refine Q219 ?_; exact Q249; refine AR.step1M (i := 5) rfl (by kernel_rfl) rfl ?_; intro g_ hgro_ hw_; refine zP (h3) ?_; refine Q199 ?_; intro g_ hgro_ hw_; refine Q79 ?_; refine AR.meet hJ_5 (by kernel_rfl) (fun g_ => weak rfl ?_ ?_ rfl); exact Q208; exact Q249; (refine AR.step2M (i := 7) (j := 8) rfl (by kernel_rfl) rfl rfl ?_ ?_ <;> intro g_ hgro_ hw_); refine Q18 ?_; refine AR.meet hJ_2 (by kernel_rfl) (fun g_ => weak rfl ?_ ?_ rfl); exact Q183; exact Q249; refine Q18 ?_; refine AR.meet hJ_3 (by kernel_rfl) (fun g_ => weak rfl ?_ ?_ rfl); exact Q183; exact Q249; refine AR.step1M (i := 9) rfl (by kernel_rfl) rfl ?_; intro g_ hgro_ hw_; exact Q290; refine AR.step1M (i := 7) rfl (by kernel_rfl) rfl ?_; intro g_ hgro_ hw_; refine Q18 ?_; refine AR.meet hJ_1 (by kernel_rfl) (fun g_ => weak rfl ?_ ?_ rfl); (iterate 16 refine ⟨.eq rfl rfl, ?_⟩); exact trivial; exact Q249; (refine AR.step2L (i := 8) (j := 10) rfl (by kernel_rfl) rfl rfl (by kernel_rfl) ?_ ?_ <;> intro g_ hgro_ hwt2_); refine Q18 ?_; refine AR.meet hJ_1 (by kernel_rfl) (fun g_ => weak rfl ?_ ?_ rfl); (iterate 16 refine ⟨.eq rfl rfl, ?_⟩); exact trivial; exact Q249; refine Q292 ?_; refine Q123 ?_; intro g_ hgro_ hwt2_; exact Q148; refine Q60 ?_; intro g_ hgro_ hwt2_; refine Q62 ?_; refine Q40 ?_; refine AR.meet hJ_0 (by kernel_rfl) (fun g_ => weak rfl ?_ ?_ rfl); (iterate 16 refine ⟨.eq rfl rfl, ?_⟩); exact trivial; exact Q249; refine Q171 ?_; intro g_ hgro_ hwt2_; refine Q133 ?_; refine zo ?_; refine AW.regionM [0, 1] [3] rfl (by assumption) (by kernel_rfl) (by kernel_rfl) rfl ?_; show AOps .held _ _ _ [_, _] _ _; refine Q202 ?_; refine Q7 ?_; intro k_ hk_; refine nz ?_; refine AR.step1M (i := 2) rfl (by kernel_rfl) rfl ?_; intro g_ hgro_ hw_; refine zA (h4) ?_; refine Q7 ?_; refine AR.step1LM (i := 3) rfl (by kernel_rfl) rfl (by kernel_rfl) ?_; intro g_ hgro_ hwt2_; refine Q292 ?_; refine Q285 ?_; intro g_ hgro_ hwt2_; refine Q133 ?_; refine AW.ret ?_)
  all_goals (apply ends_ret; (exact Res.two (.cell rfl rfl rfl rfl) (.tmp rfl rfl)); (refine Le.tupL ?_; refine LeL.cons ?_ ?_; refine Le.aggL ?_; refine LeL.cons ?_ ?_; (with_reducible exact Le.pv _); exact LeL.nil; refine LeL.cons ?_ ?_; refine Le.litI ?_; (rfl); exact LeL.nil))
theorem andG_b {gs : List GateM} {a b : Int} (hl : gs.length ≤ 100000) (ha : -1000000 ≤ a ∧ a ≤ 1000000) (hb : -1000000 ≤ b ∧ b ≤ 1000000) : -1 ≤ (andG gs a b).2 ∧ (andG gs a b).2 ≤ 2 * (gs.length : Int) + 1 ∧ (andG gs a b).1.length ≤ gs.length + 1 := by
  have hf := findG_range (gs := gs) (g := ⟨2, min a b, max a b⟩)
  unfold andG
  split
  · simp only; omega
  · split
    · simp only; omega
    · split
      · simp only; omega
      · split
        · simp only; omega
        · unfold shareG
          split
          · simp only; omega
          · split
            · simp only; omega
            · simp only [List.length_append, List.length_cons, List.length_nil]; omega
theorem iff_fn (gs : List GateM) (a b : Int) (hl : gs.length ≤ 90000) (ha : -500000 ≤ a ∧ a ≤ 500000) (hb : -500000 ≤ b ∧ b ≤ 500000) : Fn Tryz.prog 76 [crc gs, litI a, litI b] (.tup [crc (iffG gs a b).1, litI (iffG gs a b).2]) := by
  have h1 := c13Not_fn a (by omega)
  have h2 := c13Not_fn b (by omega)
  have b1 := notR_b ha
  have b2 := notR_b hb
  have h3 := and_fn gs a (notR b) (by omega) (by omega) (by omega)
  have q3 := andG_b (gs := gs) (a := a) (b := notR b) (by omega) (by omega) (by omega)
  have h5 := and_fn (andG gs a (notR b)).1 (notR a) b (by omega) (by omega) (by omega)
  have q5 := andG_b (gs := (andG gs a (notR b)).1) (a := notR a) (b := b) (by omega) (by omega) (by omega)
  unfold iffG
  generalize andG (andG gs a (notR b)).1 (notR a) b = p2 at h5 q5 ⊢
  generalize andG gs a (notR b) = p1 at h3 q3 h5 q5 ⊢
  obtain ⟨gs1, r1⟩ := p1
  obtain ⟨gs2, r2⟩ := p2
  simp only at h3 q3 h5 q5 ⊢
  have k1 := c13Not_fn r1 (by omega)
  have k2 := c13Not_fn r2 (by omega)
  have c1 := notR_b (r := r1) (by omega)
  have c2 := notR_b (r := r2) (by omega)
  have h6 := and_fn gs2 (notR r1) (notR r2) (by omega) (by omega) (by omega)
  generalize andG gs2 (notR r1) (notR r2) = p3 at h6 ⊢
  generalize notR a = na at h1 h5 b1
  generalize notR b = nb at h2 h3 b2
  generalize notR r1 = n1 at k1 h6 c1
  generalize notR r2 = n2 at k2 h6 c2
  obtain ⟨gs3, r3⟩ := p3
  simp only at h6 ⊢
  refine Fn.enter (n := 36) Tryz.func76 rfl rfl rfl rfl rfl (by decide) fun g hro_ hwt_ => ?_; (try refine nz ?_)
  (refine Q64 ?_; refine Q9 ?_; refine Q5 ?_; refine zo ?_; refine Q318 ?_; show AOps .held _ _ _ [_, _, _] _ _; refine Q80 ?_; refine Q7 ?_; intro k_ hk_; refine nz ?_; apply AR.cut [2, 1, 0, 3, 4, 5, 6, 7, 8, 9]; intro hJ_0; apply AR.cut [2, 1, 0, 3, 4, 5, 6, 7, 8]; intro hJ_1; apply AR.cut [2, 1, 0, 3, 4, 5, 6, 7]; intro hJ_2; apply AR.cut [2, 1, 0, 3, 4, 5, 7, 8]; intro hJ_3; apply AR.cut [2, 1, 0, 3, 4, 5, 6, 8]; intro hJ_4; apply AR.cut [2, 1, 0, 3, 4, 5, 8]; intro hJ_5; apply AR.cut [2, 1, 0, 3, 8]; intro hJ_6; (refine AR.step2M (i := 3) (j := 8) rfl (by kernel_rfl) rfl rfl ?_ ?_ <;> intro g_ hgro_ hw_); refine zA (h2) ?_; refine Q7 ?_; (refine AR.step2M (i := 4) (j := 8) rfl (by kernel_rfl) rfl rfl ?_ ?_ <;> intro g_ hgro_ hw_); refine zP (h3) ?_; refine Q7 ?_; (refine AR.step2M (i := 5) (j := 8) rfl (by kernel_rfl) rfl rfl ?_ ?_ <;> intro g_ hgro_ hw_); refine Q149 ?_; (refine AR.step3M (i := 6) (j := 7) (m := 8) rfl (by kernel_rfl) rfl rfl rfl ?_ ?_ ?_ <;> intro g_ hgro_ hw_); refine Q77 ?_; (refine AR.step2M (i := 7) (j := 8) rfl (by kernel_rfl) rfl rfl ?_ ?_ <;> intro g_ hgro_ hw_); refine Q49 ?_; exact AR.perm (by kernel_rfl) hJ_2; refine Q90 ?_; exact AR.perm (by kernel_rfl) hJ_4; refine Q77 ?_; (refine AR.step2M (i := 6) (j := 8) rfl (by kernel_rfl) rfl rfl ?_ ?_ <;> intro g_ hgro_ hw_); refine Q18 ?_; refine AR.meet hJ_2 (by kernel_rfl) (fun g_ => weak rfl ?_ ?_ rfl); exact Q208; refine Q16 ?_; exact Q8; exact Q282; exact Q271; refine Q9 ?_; refine Q87 ?_; intro g_ hgro_ hw_; refine Q79 ?_; refine AR.meet hJ_5 (by kernel_rfl) (fun g_ => weak rfl ?_ ?_ rfl); (iterate 13 refine ⟨.eq rfl rfl, ?_⟩); exact trivial; exact Q249; exact Q243; refine Q9 ?_; refine Q7 ?_; refine AR.step1M (i := 3) rfl (by kernel_rfl) rfl ?_; intro g_ hgro_ hw_; refine zA (h2) ?_; refine Q40 ?_; refine AR.meet hJ_6 (by kernel_rfl) (fun g_ => weak rfl ?_ ?_ rfl); exact Q254; exact Q249; refine AR.step1M (i := 4) rfl (by kernel_rfl) rfl ?_; intro g_ hgro_ hw_; refine zP (h3) ?_; refine Q87 ?_; intro g_ hgro_ hw_; refine Q79 ?_; refine AR.meet hJ_5 (by kernel_rfl) (fun g_ => weak rfl ?_ ?_ rfl); (iterate 13 refine ⟨.eq rfl rfl, ?_⟩); exact trivial; exact Q249; (refine AR.step2M (i := 6) (j := 7) rfl (by kernel_rfl) rfl rfl ?_ ?_ <;> intro g_ hgro_ hw_); refine Q18 ?_; refine AR.meet hJ_4 (by kernel_rfl) (fun g_ => weak rfl ?_ ?_ rfl); exact Q208; exact Q249; refine Q18 ?_; refine AR.meet hJ_3 (by kernel_rfl) (fun g_ => weak rfl ?_ ?_ rfl); exact Q208; exact Q249; (refine AR.step2L (i := 7) (j := 9) rfl (by kernel_rfl) rfl rfl (by kernel_rfl) ?_ ?_ <;> intro g_ hgro_ hwt2_); exact Q244; refine Q62 ?_; refine Q58 ?_; intro g_ hgro_ hwt2_; exact Q148; refine AR.step1M (i := 6) rfl (by kernel_rfl) rfl ?_; intro g_ hgro_ hw_; refine Q18 ?_; refine AR.meet hJ_1 (by kernel_rfl) (fun g_ => weak rfl ?_ ?_ rfl); exact Q183; exact Q249; refine AR.step1M (i := 8) rfl (by kernel_rfl) rfl ?_; intro g_ hgro_ hw_; refine Q9 ?_; refine Q40 ?_; refine AR.meet hJ_1 (by kernel_rfl) (fun g_ => weak rfl ?_ ?_ rfl); exact Q183; exact Q249; refine Q102 ?_; intro g_ hgro_ hwt2_; refine Q62 ?_; refine Q40 ?_; refine AR.meet hJ_0 (by kernel_rfl) (fun g_ => weak rfl ?_ ?_ rfl); exact Q183; exact Q249; refine Q60 ?_; intro g_ hgro_ hwt2_; refine Q133 ?_; refine zo ?_; refine Q317 ?_; show AOps .held _ _ _ [_, _, _] _ _; refine Q80 ?_; refine Q7 ?_; intro k_ hk_; refine nz ?_; apply AR.cut [3, 1, 0, 2, 4, 5, 6, 7, 8, 9]; intro hJ_0; apply AR.cut [3, 1, 0, 2, 4, 5, 6, 7, 8]; intro hJ_1; apply AR.cut [3, 1, 0, 2, 4, 5, 6, 7]; intro hJ_2; apply AR.cut [3, 1, 0, 2, 4, 5, 7, 8]; intro hJ_3; apply AR.cut [3, 1, 0, 2, 4, 5, 6, 8]; intro hJ_4; apply AR.cut [3, 1, 0, 2, 4, 5, 8]; intro hJ_5; apply AR.cut [3, 1, 0, 2, 8]; intro hJ_6; (refine AR.step2M (i := 2) (j := 8) rfl (by kernel_rfl) rfl rfl ?_ ?_ <;> intro g_ hgro_ hw_); refine zA (h1) ?_; refine Q7 ?_; (refine AR.step2M (i := 4) (j := 8) rfl (by kernel_rfl) rfl rfl ?_ ?_ <;> intro g_ hgro_ hw_); refine zP (h5) ?_; refine Q7 ?_; (refine AR.step2M (i := 5) (j := 8) rfl (by kernel_rfl) rfl rfl ?_ ?_ <;> intro g_ hgro_ hw_); refine Q149 ?_; (refine AR.step3M (i := 6) (j := 7) (m := 8) rfl (by kernel_rfl) rfl rfl rfl ?_ ?_ ?_ <;> intro g_ hgro_ hw_); refine Q77 ?_; (refine AR.step2M (i := 7) (j := 8) rfl (by kernel_rfl) rfl rfl ?_ ?_ <;> intro g_ hgro_ hw_); refine Q49 ?_; exact AR.perm (by kernel_rfl) hJ_2; refine Q90 ?_; exact AR.perm (by kernel_rfl) hJ_4; refine Q77 ?_; (refine AR.step2M (i := 6) (j := 8) rfl (by kernel_rfl) rfl rfl ?_ ?_ <;> intro g_ hgro_ hw_); refine Q18 ?_; refine AR.meet hJ_2 (by kernel_rfl) (fun g_ => weak rfl ?_ ?_ rfl); (iterate 24 refine ⟨.eq rfl rfl, ?_⟩); exact trivial; exact Q249; exact Q282; exact Q271; refine Q9 ?_; refine Q87 ?_; intro g_ hgro_ hw_; refine Q79 ?_; refine AR.meet hJ_5 (by kernel_rfl) (fun g_ => weak rfl ?_ ?_ rfl); (iterate 23 refine ⟨.eq rfl rfl, ?_⟩); exact trivial; exact Q97; exact Q243; refine Q9 ?_; refine Q255 ?_; intro g_ hgro_ hw_; refine zA (h1) ?_; refine Q40 ?_; refine AR.meet hJ_6 (by kernel_rfl) (fun g_ => weak rfl ?_ ?_ rfl); (iterate 21 refine ⟨.eq rfl rfl, ?_⟩); exact trivial; exact Q97; refine AR.step1M (i := 4) rfl (by kernel_rfl) rfl ?_; intro g_ hgro_ hw_; refine zP (h5) ?_; refine Q87 ?_; intro g_ hgro_ hw_; refine Q79 ?_; refine AR.meet hJ_5 (by kernel_rfl) (fun g_ => weak rfl ?_ ?_ rfl); (iterate 23 refine ⟨.eq rfl rfl, ?_⟩); exact trivial; exact Q97; (refine AR.step2M (i := 6) (j := 7) rfl (by kernel_rfl) rfl rfl ?_ ?_ <;> intro g_ hgro_ hw_); refine Q18 ?_; refine AR.meet hJ_4 (by kernel_rfl) (fun g_ => weak rfl ?_ ?_ rfl); (iterate 24 refine ⟨.eq rfl rfl, ?_⟩); exact trivial; exact Q97; refine Q18 ?_; refine AR.meet hJ_3 (by kernel_rfl) (fun g_ => weak rfl ?_ ?_ rfl); (iterate 24 refine ⟨.eq rfl rfl, ?_⟩); exact trivial; exact Q97; (refine AR.step2L (i := 7) (j := 9) rfl (by kernel_rfl) rfl rfl (by kernel_rfl) ?_ ?_ <;> intro g_ hgro_ hwt2_); exact Q244; refine Q62 ?_; refine Q58 ?_; intro g_ hgro_ hwt2_; exact Q148; refine AR.step1M (i := 6) rfl (by kernel_rfl) rfl ?_; intro g_ hgro_ hw_; refine Q18 ?_; refine AR.meet hJ_1 (by kernel_rfl) (fun g_ => weak rfl ?_ ?_ rfl); (iterate 25 refine ⟨.eq rfl rfl, ?_⟩); exact trivial; exact Q97; refine AR.step1M (i := 8) rfl (by kernel_rfl) rfl ?_; intro g_ hgro_ hw_; refine Q9 ?_; refine Q40 ?_; refine AR.meet hJ_1 (by kernel_rfl) (fun g_ => weak rfl ?_ ?_ rfl); (iterate 25 refine ⟨.eq rfl rfl, ?_⟩); exact trivial; exact Q97; refine Q102 ?_; intro g_ hgro_ hwt2_; refine Q62 ?_; refine Q40 ?_; refine AR.meet hJ_0 (by kernel_rfl) (fun g_ => weak rfl ?_ ?_ rfl); (iterate 25 refine ⟨.eq rfl rfl, ?_⟩); exact trivial; exact Q97; refine Q60 ?_; intro g_ hgro_ hwt2_; refine Q133 ?_; refine zo ?_; (with_reducible apply AW.keepR 3 16 [6,9,10,11]); exact rfl; refine Q223 ?_; refine AW.regionM [0, 1, 3] [8] rfl (by assumption) (by kernel_rfl) (by kernel_rfl) rfl ?_; show AOps .held _ _ _ [_, _, _] _ _; refine Q80 ?_; refine Q7 ?_; intro k_ hk_; refine nz ?_; refine AR.step1M (i := 2) rfl (by kernel_rfl) rfl ?_; intro g_ hgro_ hw_; refine zA (k1) ?_; refine Q7 ?_; refine AR.step1M (i := 4) rfl (by kernel_rfl) rfl ?_; intro g_ hgro_ hw_; refine zA (k2) ?_; refine Q87 ?_; intro g_ hgro_ hw_; refine zP (h6) ?_; refine Q7 ?_; refine AR.readsM [6, 7] (by kernel_rfl) (by kernel_rfl) (by kernel_rfl) (by kernel_rfl) ?_; intro g_ hgro_; show AOps .held _ _ _ [_, _] _ _; (iterate 2 refine AOps.extract rfl rfl rfl rfl ?_); refine Q7 ?_; intro k_ hk_; refine nz ?_; refine Q123 ?_; intro g_ hgro_ hwt2_; refine Q292 ?_; refine Q102 ?_; intro g_ hgro_ hwt2_; refine Q133 ?_; refine AW.ret ?_)
  all_goals (apply ends_ret; (exact Res.two (.cell rfl rfl rfl rfl) (.tmp rfl rfl)); (refine Le.tupL ?_; refine LeL.cons ?_ ?_; refine Le.aggL ?_; refine LeL.cons ?_ ?_; (with_reducible exact Le.pv _); exact LeL.nil; refine LeL.cons ?_ ?_; refine Le.litI ?_; (rfl); exact LeL.nil))
end Go.Ab
