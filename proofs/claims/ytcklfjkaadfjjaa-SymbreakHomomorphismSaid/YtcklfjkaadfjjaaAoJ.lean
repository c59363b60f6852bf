/- Chapters 05 to 07: relations, states, models as data; equality, the next state. -/
import Derived.Test.YtcklfjkaadfjjaaRows
import Derived.Test.YtcklfjkaadfjjaaAbL3
import Derived.Test.YtcklfjkaadfjjaaAbL2
import Derived.Shelf.Sort.Plain
import Derived.Ground.Names2Prog
import Derived.Shelf.Slices.SearchI
import Derived.Shelf.Slices.In.SortNone
import Derived.Shelf.Slices.Empties
import Derived.Test.YtcklfjkaadfjjaaProg
set_option linter.unusedSimpArgs false
set_option linter.unusedVariables false
namespace Go.Ab
open Go Go.Proofs
set_option maxRecDepth 20000
set_option maxHeartbeats 2000000
attribute [local irreducible] AW AOps thenD inBlockD
theorem take_succ_get {α : Type} {l : List α} {k : Nat} (hk : k < l.length) : l.take (k + 1) = l.take k ++ [l[k]] := List.take_succ_eq_append_getElem hk
theorem take_all {α : Type} {l : List α} {k : Nat} (h : ¬ (k : Int) < (l.length : Int)) : l.take k = l := List.take_of_length_le (by omega)
abbrev RelM := Int × List Int
abbrev relA (r : RelM) : AV := .agg [litI r.1, .pv (ints r.2)]
theorem eq_at_end {α : Type} {a b : List α} {k : Nat} (hl : a.length = b.length) (h : a.take k = b.take k) (hk : ¬ k < a.length) : a = b := by
  rwa [List.take_of_length_le (by omega), List.take_of_length_le (by omega)] at h
theorem eq_step {α : Type} {a b : List α} {k : Nat} (h : a.take k = b.take k) (ha : k < a.length) (hb : k < b.length) (e : a[k] = b[k]) : a.take (k + 1) = b.take (k + 1) := by
  rw [take_succ_get ha, take_succ_get hb, h, e]
theorem rEqual_fn (a b : RelM) : Fn Try.prog 87 [relA a, relA b] (litB (decide (a = b))) := by
  obtain ⟨c, a⟩ := a
  obtain ⟨d, b⟩ := b
  by_cases h1 : c = d
  · subst h1
    have he : decide ((c, a) = (c, b)) = decide (a = b) := by simp
    rw [he]
    refine Fn.enter (n := 38) Try.func87 rfl rfl rfl rfl rfl (by decide) fun g hro_ hwt_ => ?_; (try refine nz ?_)
    refine AW.len_agg 0 1 rfl rfl fun hlen => ?_
    simp only at hlen
    by_cases hab : a.length = b.length
    · (refine zq ?_; refine AOps.box rfl rfl rfl rfl ?_; refine nz ?_; refine AOps.box rfl rfl rfl rfl ?_; refine nz ?_; refine za ?_; refine zd ?_; refine zo ?_; refine zq ?_; refine nz ?_; refine AOps.fieldAddrN 99 0 0 rfl rfl rfl rfl ?_; refine zb ?_; refine AOps.fieldAddrN 99 0 0 rfl rfl rfl rfl ?_; refine zb ?_; refine AOps.neq rfl rfl rfl rfl rfl ?_; refine zm ?_; refine zy ?_; refine AOps.fieldAddrN 99 1 1 rfl rfl rfl rfl ?_; refine zy ?_; refine zb ?_; refine zy ?_; refine zn ?_; refine zy ?_; refine AOps.fieldAddrN 99 1 1 rfl rfl rfl rfl ?_; refine zy ?_; refine zb ?_; refine zy ?_; refine zn ?_; refine zy ?_; refine AOps.neq rfl rfl rfl rfl rfl ?_; refine zF ?_; refine zd ?_; refine zk ?_; refine AW.skip ?_; refine thenD_n ?_; refine zo ?_; refine zq ?_; refine nz ?_; refine za ?_; refine zd ?_; refine AW.block ?_)
      refine AW.loop (fun (k : Nat) => { n := 38, env := [(2, .ptr 0 0), (3, .ptr 1 0), (5, litI k)], objs := [(0, some (.box [litI c, .pv (ints a)])), (1, some (.box [litI c, .pv (ints b)]))], nx := 2 }) (fun k => k ≤ a.length ∧ a.take k = b.take k) (fun k => a.length - k) 0 ?_ ?_ ?_
      · simp
      · exact weak rfl (by (refine ⟨.eq rfl rfl, ?_⟩; (iterate 2 refine ⟨.eq rfl rfl, ?_⟩); exact trivial)) (by (refine ⟨.box _ rfl ?_, ?_⟩; (iterate 2 refine ⟨.eq rfl rfl, ?_⟩); exact trivial; refine ⟨.box _ rfl ?_, ?_⟩; (iterate 2 refine ⟨.eq rfl rfl, ?_⟩); (iterate 2 exact trivial))) rfl
      rintro k ⟨hk, hno⟩
      by_cases hlt : k < a.length
      · have hlt2 : k < b.length := by omega
        (refine zo ?_; refine zq ?_; refine zm ?_; refine AOps.fieldAddrN 99 1 1 rfl rfl rfl rfl ?_; refine zb ?_; refine zn ?_; refine zs ?_; refine zd ?_; refine zc ?_; refine AW.skip ?_; refine thenD_n ?_; refine zo ?_; refine AW.block ?_; refine zo ?_; refine AW.regionQ rfl rfl (by kernel_rfl) (by with_reducible assumption) ?_; refine AOps.fieldAddrN 99 1 1 rfl rfl rfl rfl ?_; refine zb ?_; refine zm ?_; (focus ((with_reducible apply AOps.index_map); (iterate 7 exact rfl); rotate_left; omega)); refine zr ?_; refine AOps.fieldAddrN 99 1 1 rfl rfl rfl rfl ?_; refine zb ?_; refine zm ?_; (focus ((with_reducible apply AOps.index_map); (iterate 7 exact rfl); rotate_left; omega)); refine zr ?_; refine AOps.neq rfl rfl rfl rfl rfl ?_; refine zd ?_; (focus ((with_reducible apply AW.condD); exact rfl; exact rfl; all_goals intro hc_)); refine zq ?_; refine nz ?_; refine za ?_; refine zd ?_; refine AW.ret ?_; refine inBlockD_ret ?_; (iterate 2 refine thenD_ret ?_); refine inBlockD_ret ?_; refine thenD_ret ?_; (all_goals skip); rotate_left; refine AW.skip ?_; refine inBlockD_n ?_; refine thenD_n ?_; refine AW.region ?_; refine nz ?_; refine zm ?_; refine zj ?_; refine za ?_; refine zd ?_; (all_goals skip); rotate_left)
        · have hne : ¬ a = b := by rintro rfl; exact hc_ rfl
          (apply ends_ret; (exact Res.one (.tmp rfl rfl)); (refine Le.litB ?_; (rw [eq_comm, decide_eq_false_iff_not]; exact hne)))
        · exact ⟨k + 1, ⟨by omega, eq_step hno hlt hlt2 (Decidable.not_not.1 hc_)⟩, by omega, weak rfl (by (refine ⟨.eq rfl rfl, ?_⟩; (iterate 2 refine ⟨.eq rfl rfl, ?_⟩); exact trivial)) (by (refine ⟨.box _ rfl ?_, ?_⟩; (iterate 2 refine ⟨.eq rfl rfl, ?_⟩); exact trivial; refine ⟨.box _ rfl ?_, ?_⟩; (iterate 2 refine ⟨.eq rfl rfl, ?_⟩); (iterate 2 exact trivial))) rfl⟩
      · have he : a = b := eq_at_end hab hno hlt
        (refine zo ?_; refine zq ?_; refine zm ?_; refine AOps.fieldAddrN 99 1 1 rfl rfl rfl rfl ?_; refine zb ?_; refine zn ?_; refine zs ?_; refine zd ?_; refine zk ?_; refine AW.exit ?_; (iterate 2 refine thenD_exit ?_); refine inBlockD_exit ?_; refine thenD_n ?_; refine zq ?_; refine nz ?_; refine za ?_; refine zd ?_; refine AW.ret ?_)
        (apply ends_ret; (exact Res.one (.tmp rfl rfl)); (refine Le.litB ?_; (rw [eq_comm, decide_eq_true_iff]; exact he)))
    · have hne : ¬ a = b := by rintro rfl; exact hab rfl
      (refine zq ?_; refine AOps.box rfl rfl rfl rfl ?_; refine nz ?_; refine AOps.box rfl rfl rfl rfl ?_; refine nz ?_; refine za ?_; refine zd ?_; refine zo ?_; refine zq ?_; refine nz ?_; refine AOps.fieldAddrN 99 0 0 rfl rfl rfl rfl ?_; refine zb ?_; refine AOps.fieldAddrN 99 0 0 rfl rfl rfl rfl ?_; refine zb ?_; refine AOps.neq rfl rfl rfl rfl rfl ?_; refine zm ?_; refine zy ?_; refine AOps.fieldAddrN 99 1 1 rfl rfl rfl rfl ?_; refine zy ?_; refine zb ?_; refine zy ?_; refine zn ?_; refine zy ?_; refine AOps.fieldAddrN 99 1 1 rfl rfl rfl rfl ?_; refine zy ?_; refine zb ?_; refine zy ?_; refine zn ?_; refine zy ?_; refine AOps.neq rfl rfl rfl rfl rfl ?_; refine zF ?_; refine zd ?_; refine zc ?_; refine zq ?_; refine nz ?_; refine za ?_; refine zd ?_; refine AW.ret ?_; refine thenD_ret ?_)
      (apply ends_ret; (exact Res.one (.tmp rfl rfl)); (refine Le.litB ?_; (rw [eq_comm, decide_eq_false_iff_not]; exact hne)))
  · have he : decide ((c, a) = (d, b)) = false := by simp [h1]
    rw [he]
    refine Fn.enter (n := 38) Try.func87 rfl rfl rfl rfl rfl (by decide) fun g hro_ hwt_ => ?_; (try refine nz ?_)
    (refine zq ?_; refine AOps.box rfl rfl rfl rfl ?_; refine nz ?_; refine AOps.box rfl rfl rfl rfl ?_; refine nz ?_; refine za ?_; refine zd ?_; refine zo ?_; refine zq ?_; refine nz ?_; refine AOps.fieldAddrN 99 0 0 rfl rfl rfl rfl ?_; refine zb ?_; refine AOps.fieldAddrN 99 0 0 rfl rfl rfl rfl ?_; refine zb ?_; refine AOps.neq rfl rfl rfl rfl rfl ?_; refine zm ?_; (iterate 7 refine AOps.guardFn rfl rfl rfl rfl rfl rfl (by with_reducible assumption) ?_); refine zT ?_; refine zd ?_; refine AW.cond_lt rfl rfl ?_; refine zq ?_; refine nz ?_; refine za ?_; refine zd ?_; refine AW.ret ?_; refine thenD_ret ?_)
    (apply ends_ret; (exact Res.one (.tmp rfl rfl)); (refine Le.litB ?_; (rfl)))
end Go.Ab
/- Chapter 24 (as chapter 19): circuits, in plain terms. -/
namespace Go.Ab
open Go Go.Proofs
set_option maxRecDepth 20000
set_option maxHeartbeats 4000000
structure GateM where
  k : Int
  a : Int
  b : Int
deriving DecidableEq
abbrev encG (g : GateM) : List PV := [.lit (.int .i64 g.k), .lit (.int .i64 g.a), .lit (.int .i64 g.b)]
abbrev gatesV (l : List GateM) : PV := .slice 3 (l.map encG)
abbrev crc (l : List GateM) : AV := .agg [.pv (gatesV l)]
def notR (r : Int) : Int := if r < 0 then -1 else if r % 2 = 0 then r + 1 else r - 1
def findG (gs : List GateM) (g : GateM) : Int := if gs.any (fun h => decide (h = g)) = true then (gs.findIdx (fun h => decide (h = g)) : Nat) else -1
def shareG (gs : List GateM) (g : GateM) : List GateM × Int := if 0 ≤ findG gs g then (gs, 2 * findG gs g) else if 20000 ≤ gs.length then (gs, -1) else (gs ++ [g], 2 * gs.length)
def inputG (gs : List GateM) (v : Int) : List GateM × Int := if v < 1 ∨ 20000 < v then (gs, -1) else shareG gs ⟨1, v, 0⟩
def andG (gs : List GateM) (a b : Int) : List GateM × Int :=
  if a < 0 ∨ b < 0 ∨ 2 * (gs.length : Int) ≤ a ∨ 2 * (gs.length : Int) ≤ b then (gs, -1) else if a = 1 ∨ b = 1 ∨ b = notR a then (gs, 1) else if a = 0 then (gs, b) else if b = 0 ∨ a = b then (gs, a) else shareG gs ⟨2, min a b, max a b⟩
def orG (gs : List GateM) (a b : Int) : List GateM × Int := ((andG gs (notR a) (notR b)).1, notR (andG gs (notR a) (notR b)).2)
def gOk (g : GateM) (i : Nat) : Prop := (g.k = 1 ∧ 1 ≤ g.a ∧ g.a ≤ 1000 ∧ g.b = 0) ∨ (g.k = 2 ∧ 2 ≤ g.a ∧ g.a < g.b ∧ g.b < 2 * (i : Int) ∧ g.a / 2 ≠ g.b / 2)
structure CirOk (gs : List GateM) : Prop where
  zero : gs[0]? = some ⟨0, 0, 0⟩
  ok : ∀ (i : Nat) (h : i < gs.length), i ≠ 0 → gOk gs[i] i
def RefOk (gs : List GateM) (r : Int) : Prop := 0 ≤ r ∧ r < 2 * (gs.length : Int)
theorem CirOk.pos {gs : List GateM} (h : CirOk gs) : 0 < gs.length := (List.getElem?_eq_some_iff.1 h.zero).1
theorem notR_ok {gs : List GateM} {r : Int} (h : RefOk gs r) : RefOk gs (notR r) := by
  unfold notR RefOk at *
  rw [if_neg (by omega)]
  split <;> omega
theorem RefOk.mono {gs gs' : List GateM} {r : Int} (h : RefOk gs r) (hl : gs.length ≤ gs'.length) : RefOk gs' r := by unfold RefOk at *; omega
structure Grown (gs : List GateM) (n : Nat) (p : List GateM × Int) : Prop where
  cir : CirOk p.1
  ref : RefOk p.1 p.2
  le : gs.length ≤ p.1.length
  len : p.1.length ≤ gs.length + n
theorem findG_range {gs : List GateM} {g : GateM} : findG gs g = -1 ∨ (0 ≤ findG gs g ∧ findG gs g < gs.length) := by
  unfold findG
  split
  · rename_i h
    have : gs.findIdx (fun h => decide (h = g)) < gs.length := by
      rw [List.findIdx_lt_length]
      obtain ⟨x, hx, h⟩ := List.any_eq_true.1 h
      exact ⟨x, hx, h⟩
    right; omega
  · exact .inl rfl
theorem share_ok {gs : List GateM} {g : GateM} (hc : CirOk gs) (hg : gOk g gs.length) (hl : gs.length < 20000) : Grown gs 1 (shareG gs g) := by
  unfold shareG
  have hr := findG_range (gs := gs) (g := g)
  split
  · exact ⟨hc, ⟨by show 0 ≤ 2 * findG gs g; omega, by show 2 * findG gs g < 2 * (gs.length : Int); omega⟩, Nat.le_refl _, Nat.le_succ _⟩
  · rw [if_neg (by omega)]
    refine ⟨⟨by show (gs ++ [g])[0]? = _; rw [List.getElem?_append_left hc.pos]; exact hc.zero, fun i hi h0 => ?_⟩, ⟨by show 0 ≤ 2 * (gs.length : Int); omega, by show 2 * (gs.length : Int) < 2 * ((gs ++ [g]).length : Nat); rw [List.length_append]; simp only [List.length_cons, List.length_nil]; omega⟩, by simp, by simp⟩
    have hi' : i < (gs ++ [g]).length := hi
    show gOk (gs ++ [g])[i] i
    by_cases h : i < gs.length
    · rw [List.getElem_append_left h]; exact hc.ok i h h0
    · have : i = gs.length := by simp at hi'; omega
      subst this
      rw [List.getElem_append_right (Nat.le_refl _)]
      simpa using hg
theorem input_ok {gs : List GateM} {v : Int} (hc : CirOk gs) (hv : 1 ≤ v ∧ v ≤ 1000) (hl : gs.length < 20000) : Grown gs 1 (inputG gs v) := by
  unfold inputG
  rw [if_neg (by omega)]
  exact share_ok hc (.inl ⟨rfl, hv.1, hv.2, rfl⟩) hl
theorem and_ok {gs : List GateM} {a b : Int} (hc : CirOk gs) (ha : RefOk gs a) (hb : RefOk gs b) (hl : gs.length < 20000) : Grown gs 1 (andG gs a b) := by
  have hp := hc.pos
  unfold andG
  have ha' := ha
  have hb' := hb
  unfold RefOk at ha' hb'
  rw [if_neg (by omega)]
  split
  · exact ⟨hc, ⟨by show (0 : Int) ≤ 1; omega, by show (1 : Int) < 2 * (gs.length : Int); omega⟩, Nat.le_refl _, Nat.le_succ _⟩
  · rename_i h1
    split
    · exact ⟨hc, hb, Nat.le_refl _, Nat.le_succ _⟩
    · split
      · exact ⟨hc, ha, Nat.le_refl _, Nat.le_succ _⟩
      · rename_i h2 h3
        have hn : b ≠ notR a := fun h => h1 (.inr (.inr h))
        unfold notR at hn
        rw [if_neg (by omega)] at hn
        refine share_ok hc (.inr ⟨rfl, ?_, ?_, ?_, ?_⟩) hl
        · show 2 ≤ min a b; omega
        · show min a b < max a b; omega
        · show max a b < _; omega
        · show min a b / 2 ≠ max a b / 2
          split at hn <;> omega
theorem or_ok {gs : List GateM} {a b : Int} (hc : CirOk gs) (ha : RefOk gs a) (hb : RefOk gs b) (hl : gs.length < 20000) : Grown gs 1 (orG gs a b) := by
  have h := and_ok hc (notR_ok ha) (notR_ok hb) hl
  exact ⟨h.cir, notR_ok h.ref, h.le, h.len⟩
def inV (vals : List Bool) (a : Int) : Bool := vals.getD (a - 1).toNat false
def refV (done : List Bool) (r : Int) : Bool := done.getD (r / 2).toNat false == decide (r % 2 = 0)
def gateV (vals done : List Bool) (g : GateM) : Bool := if g.k = 1 then inV vals g.a else if g.k = 2 then refV done g.a && refV done g.b else true
def doneG (gs : List GateM) (vals : List Bool) : Nat → List Bool
  | 0 => []
  | i + 1 => doneG gs vals i ++ [gateV vals (doneG gs vals i) (gs.getD i ⟨0, 0, 0⟩)]
theorem doneG_len (gs : List GateM) (vals : List Bool) : ∀ i, (doneG gs vals i).length = i
  | 0 => rfl
  | i + 1 => by rw [doneG, List.length_append, doneG_len gs vals i]; rfl
def valG (gs : List GateM) (vals : List Bool) (i : Nat) : Bool := (doneG gs vals (i + 1)).getD i false
theorem doneG_get (gs : List GateM) (vals : List Bool) : ∀ (m i : Nat), i < m → (doneG gs vals m).getD i false = valG gs vals i
  | 0, i, h => by omega
  | m + 1, i, h => by
    by_cases e : i = m
    · subst e; rfl
    · rw [doneG, List.getD_eq_getElem?_getD, List.getElem?_append_left (by rw [doneG_len]; omega), ← List.getD_eq_getElem?_getD, doneG_get gs vals m i (by omega)]
def evalG (gs : List GateM) (vals : List Bool) (r : Int) : Bool := valG gs vals (r / 2).toNat == decide (r % 2 = 0)
theorem refV_done (gs : List GateM) (vals : List Bool) {m : Nat} {r : Int} (h0 : 0 ≤ r) (h : r < 2 * (m : Int)) : refV (doneG gs vals m) r = evalG gs vals r := by
  unfold refV evalG
  rw [doneG_get gs vals m _ (by omega)]
theorem valG_eq (gs : List GateM) (vals : List Bool) (i : Nat) : valG gs vals i = gateV vals (doneG gs vals i) (gs.getD i ⟨0, 0, 0⟩) := by
  unfold valG
  rw [doneG, List.getD_eq_getElem?_getD, List.getElem?_append_right (by rw [doneG_len]; omega), doneG_len]
  simp
theorem valG_and {gs : List GateM} (hc : CirOk gs) (vals : List Bool) {i : Nat} (hi : i < gs.length) (hk : gs[i].k = 2) : valG gs vals i = (evalG gs vals gs[i].a && evalG gs vals gs[i].b) := by
  have hg : gs.getD i ⟨0, 0, 0⟩ = gs[i] := by rw [List.getD_eq_getElem?_getD, List.getElem?_eq_getElem hi]; rfl
  have h0 : i ≠ 0 := fun e => by
    subst e
    have := hc.zero
    rw [List.getElem?_eq_getElem hi] at this
    rw [Option.some.inj this] at hk
    simp at hk
  rcases hc.ok i hi h0 with h | h
  · omega
  · rw [valG_eq, hg, gateV, if_neg (by omega), if_pos hk, refV_done gs vals (by omega) (by omega), refV_done gs vals (by omega) (by omega)]
theorem eval_not {gs : List GateM} {vals : List Bool} {r : Int} (h : 0 ≤ r) : evalG gs vals (notR r) = !(evalG gs vals r) := by
  unfold evalG notR
  rw [if_neg (by omega)]
  by_cases h2 : r % 2 = 0
  · rw [if_pos h2, show (r + 1) / 2 = r / 2 by omega, decide_eq_true h2, decide_eq_false (show ¬ (r + 1) % 2 = 0 by omega)]
    cases valG gs vals (r / 2).toNat <;> rfl
  · rw [if_neg h2, show (r - 1) / 2 = r / 2 by omega, decide_eq_false h2, decide_eq_true (show (r - 1) % 2 = 0 by omega)]
    cases valG gs vals (r / 2).toNat <;> rfl
end Go.Ab
/- Chapter 24: what the gates that a circuit gains compute. -/
namespace Go.Ab
open Go Go.Proofs
set_option maxRecDepth 20000
set_option maxHeartbeats 4000000
theorem doneG_app (gs ex : List GateM) (v : List Bool) : ∀ n, n ≤ gs.length → doneG (gs ++ ex) v n = doneG gs v n
  | 0, _ => rfl
  | n + 1, h => by
    rw [doneG, doneG, doneG_app gs ex v n (by omega), List.getD_eq_getElem?_getD, List.getElem?_append_left (by omega), ← List.getD_eq_getElem?_getD]
theorem evalG_app (gs ex : List GateM) (v : List Bool) {r : Int} (hr : RefOk gs r) : evalG (gs ++ ex) v r = evalG gs v r := by
  unfold RefOk at hr
  unfold evalG valG
  rw [doneG_app gs ex v _ (by omega)]
structure Ev (gs : List GateM) (p : List GateM × Int) (f : List Bool → Bool) : Prop where
  keep : ∀ v r, RefOk gs r → evalG p.1 v r = evalG gs v r
  val : ∀ v, evalG p.1 v p.2 = f v
theorem findG_at {gs : List GateM} {g : GateM} (h : 0 ≤ findG gs g) : ∃ i : Nat, ∃ hi : i < gs.length, findG gs g = (i : Int) ∧ gs[i] = g := by
  unfold findG at h ⊢
  split at h
  · rename_i hx
    have hlt : gs.findIdx (fun h => decide (h = g)) < gs.length := by
      rw [List.findIdx_lt_length]
      obtain ⟨x, hx, h⟩ := List.any_eq_true.1 hx
      exact ⟨x, hx, h⟩
    refine ⟨_, hlt, if_pos hx, ?_⟩
    have := List.findIdx_getElem (w := hlt)
    exact of_decide_eq_true this
  · omega
theorem gate_val {gs : List GateM} {v : List Bool} {i : Nat} (hi : i < gs.length) : evalG gs v (2 * (i : Int)) = gateV v (doneG gs v i) gs[i] := by
  unfold evalG
  rw [show (2 * (i : Int) / 2).toNat = i by omega, decide_eq_true (show 2 * (i : Int) % 2 = 0 by omega), valG_eq, List.getD_eq_getElem?_getD, List.getElem?_eq_getElem hi]
  simp
theorem share_ev {gs : List GateM} {g : GateM} (hl : gs.length < 20000) {f : List Bool → Bool} (hfound : ∀ (v : List Bool) (i : Nat) (hi : i < gs.length), gs[i] = g → evalG gs v (2 * (i : Int)) = f v) (hnew : ∀ v, gateV v (doneG gs v gs.length) g = f v) : Ev gs (shareG gs g) f := by
  unfold shareG
  split
  · rename_i h
    obtain ⟨i, hi, h1, h2⟩ := findG_at h
    refine ⟨fun v r _ => rfl, fun v => ?_⟩
    show evalG gs v (2 * findG gs g) = f v
    rw [h1]
    exact hfound v i hi h2
  · rw [if_neg (by omega)]
    refine ⟨fun v r hr => evalG_app gs [g] v hr, fun v => ?_⟩
    show evalG (gs ++ [g]) v (2 * (gs.length : Int)) = f v
    rw [gate_val (by simp), doneG_app gs [g] v _ (Nat.le_refl _), List.getElem_append_right (Nat.le_refl _)]
    simpa using hnew v
theorem input_ev {gs : List GateM} {w : Int} (hw : 1 ≤ w ∧ w ≤ 1000) (hl : gs.length < 20000) : Ev gs (inputG gs w) (fun v => inV v w) := by
  unfold inputG
  rw [if_neg (by omega)]
  refine share_ev hl (fun v i hi h => ?_) (fun v => rfl)
  rw [gate_val hi, h]; rfl
theorem evalG_0 {gs : List GateM} (hc : CirOk gs) (v : List Bool) : evalG gs v 0 = true := by
  have h := gate_val (gs := gs) (v := v) hc.pos
  have h0 := hc.zero
  rw [List.getElem?_eq_getElem hc.pos] at h0
  rw [Option.some.inj h0] at h
  exact h
theorem evalG_1 {gs : List GateM} (hc : CirOk gs) (v : List Bool) : evalG gs v 1 = false := by
  have h := eval_not (gs := gs) (vals := v) (r := 0) (by omega)
  rw [evalG_0 hc] at h
  exact h
theorem min_max_and (f : Int → Bool) (a b : Int) : (f (min a b) && f (max a b)) = (f a && f b) := by
  rcases Int.le_total a b with h | h
  · rw [Int.min_eq_left h, Int.max_eq_right h]
  · rw [Int.min_eq_right h, Int.max_eq_left h, Bool.and_comm]
theorem and_ev {gs : List GateM} {a b : Int} (hc : CirOk gs) (ha : RefOk gs a) (hb : RefOk gs b) (hl : gs.length < 20000) : Ev gs (andG gs a b) (fun v => evalG gs v a && evalG gs v b) := by
  have ha' := ha
  have hb' := hb
  unfold RefOk at ha' hb'
  unfold andG
  rw [if_neg (by omega)]
  split
  · rename_i h
    refine ⟨fun v r _ => rfl, fun v => ?_⟩
    show evalG gs v 1 = _
    rw [evalG_1 hc]
    rcases h with rfl | rfl | rfl
    · rw [evalG_1 hc]; rfl
    · rw [evalG_1 hc, Bool.and_false]
    · rw [eval_not ha'.1]; cases evalG gs v a <;> rfl
  · split
    · rename_i h; subst h
      exact ⟨fun v r _ => rfl, fun v => by rw [evalG_0 hc]; rfl⟩
    · split
      · rename_i h
        refine ⟨fun v r _ => rfl, fun v => ?_⟩
        rcases h with rfl | rfl
        · rw [evalG_0 hc, Bool.and_true]
        · rw [Bool.and_self]
      · refine share_ev hl (fun v i hi h => ?_) (fun v => ?_)
        · have := valG_and hc v hi (by rw [h])
          rw [h] at this
          unfold evalG at this ⊢
          rw [show (2 * (i : Int) / 2).toNat = i by omega, decide_eq_true (show 2 * (i : Int) % 2 = 0 by omega), this]
          have hm := min_max_and (fun r => evalG gs v r) a b
          unfold evalG at hm
          rw [hm]
          simp
        · show (if (2 : Int) = 1 then inV v (min a b) else if (2 : Int) = 2 then refV (doneG gs v gs.length) (min a b) && refV (doneG gs v gs.length) (max a b) else true) = _
          rw [if_neg (by decide), if_pos rfl, refV_done gs v (by omega) (by omega), refV_done gs v (by omega) (by omega), min_max_and (fun r => evalG gs v r) a b]
theorem or_ev {gs : List GateM} {a b : Int} (hc : CirOk gs) (ha : RefOk gs a) (hb : RefOk gs b) (hl : gs.length < 20000) : Ev gs (orG gs a b) (fun v => evalG gs v a || evalG gs v b) := by
  have h := and_ev hc (notR_ok ha) (notR_ok hb) hl
  have hg := and_ok hc (notR_ok ha) (notR_ok hb) hl
  refine ⟨h.keep, fun v => ?_⟩
  have hr := hg.ref
  unfold RefOk at ha hb hr
  show evalG (andG gs (notR a) (notR b)).1 v (notR (andG gs (notR a) (notR b)).2) = _
  rw [eval_not hr.1, h.val, eval_not ha.1, eval_not hb.1]
  cases evalG gs v a <;> cases evalG gs v b <;> rfl
theorem findG_none {gs : List GateM} {g : GateM} (h : ¬ 0 ≤ findG gs g) : g ∉ gs := fun hm => by
  unfold findG at h
  rw [if_pos (List.any_eq_true.2 ⟨g, hm, by simp⟩)] at h
  omega
theorem share_nodup {gs : List GateM} {g : GateM} (h : gs.Nodup) : (shareG gs g).1.Nodup := by
  unfold shareG
  split
  · exact h
  · rename_i hf
    split
    · exact h
    · show (gs ++ [g]).Nodup
      rw [List.nodup_append]
      exact ⟨h, by simp, fun a ha b hb e => by simp at hb; subst hb; subst e; exact findG_none hf ha⟩
theorem input_nodup {gs : List GateM} {w : Int} (h : gs.Nodup) : (inputG gs w).1.Nodup := by
  unfold inputG; split
  · exact h
  · exact share_nodup h
theorem and_nodup {gs : List GateM} {a b : Int} (h : gs.Nodup) : (andG gs a b).1.Nodup := by
  unfold andG
  split
  · exact h
  · split
    · exact h
    · split
      · exact h
      · split
        · exact h
        · exact share_nodup h
theorem or_nodup {gs : List GateM} {a b : Int} (h : gs.Nodup) : (orG gs a b).1.Nodup := and_nodup h
end Go.Ab
/- Chapter 24: the predicate of a permutation, in plain terms. -/
namespace Go.Ab
open Go Go.Proofs
set_option maxRecDepth 20000
set_option maxHeartbeats 4000000
def backM (perm : List Int) (w : Int) : Int := (perm.findIdx (fun x => decide (x = w)) : Nat) + 1
def invM (perm : List Int) : List Int := (List.range perm.length).map fun j : Nat => backM perm ((j : Int) + 1)
structure PermOk (perm : List Int) : Prop where
  rng : ∀ w ∈ perm, 1 ≤ w ∧ w ≤ perm.length
  nodup : perm.Nodup
theorem nodup_len (n : Nat) : ∀ {l : List Int}, l.Nodup → (∀ x ∈ l, 1 ≤ x ∧ x ≤ n) → l.length ≤ n := by
  induction n with
  | zero =>
    intro l _ h
    cases l with
    | nil => exact Nat.le_refl _
    | cons x l => have := h x (by simp); omega
  | succ n ih =>
    intro l h1 h2
    have h3 : (l.erase ((n : Int) + 1)).length ≤ n := ih (h1.erase _) fun x hx => by
      have h4 := (List.Nodup.mem_erase_iff h1).1 hx
      have h5 := h2 x h4.2
      have := h4.1
      omega
    by_cases hn : ((n : Int) + 1) ∈ l
    · rw [List.length_erase_of_mem hn] at h3; omega
    · rw [List.erase_of_not_mem hn] at h3; omega
theorem PermOk.all {perm : List Int} (h : PermOk perm) {w : Int} (hw : 1 ≤ w ∧ w ≤ perm.length) : w ∈ perm := by
  apply Classical.byContradiction
  intro hn
  have := nodup_len perm.length (l := w :: perm) (List.nodup_cons.2 ⟨hn, h.nodup⟩) (fun x hx => by
    rcases List.mem_cons.1 hx with rfl | hx
    · exact hw
    · exact h.rng x hx)
  rw [List.length_cons] at this
  omega
theorem PermOk.at {perm : List Int} (h : PermOk perm) {w : Int} (hw : 1 ≤ w ∧ w ≤ perm.length) : ∃ i : Nat, ∃ hi : i < perm.length, perm.findIdx (fun x => decide (x = w)) = i ∧ perm[i] = w := by
  have hm := h.all hw
  have hlt : perm.findIdx (fun x => decide (x = w)) < perm.length := by
    rw [List.findIdx_lt_length]
    exact ⟨w, hm, by simp⟩
  exact ⟨_, hlt, rfl, of_decide_eq_true (List.findIdx_getElem (w := hlt))⟩
theorem PermOk.back {perm : List Int} (h : PermOk perm) {w : Int} (hw : 1 ≤ w ∧ w ≤ perm.length) : 1 ≤ backM perm w ∧ backM perm w ≤ perm.length := by
  obtain ⟨i, hi, h1, h2⟩ := h.at hw
  unfold backM
  rw [h1]
  omega
theorem inv_len (perm : List Int) : (invM perm).length = perm.length := by simp [invM]
theorem inv_at {perm : List Int} {w : Int} (hw : 1 ≤ w ∧ w ≤ perm.length) (h : (w - 1).toNat < (invM perm).length) : (invM perm)[(w - 1).toNat] = backM perm w := by
  have e : (invM perm)[(w - 1).toNat] = backM perm (((w - 1).toNat : Nat) + 1 : Int) := by simp [invM]
  rw [e]
  congr 1
  omega
def predS (perm : List Int) (w : Int) (p : List GateM × Int) : List GateM × Int :=
  if backM perm w = w then p else
    (andG (orG (andG (andG (inputG (inputG p.1 w).1 (backM perm w)).1 (inputG p.1 w).2 (notR (inputG (inputG p.1 w).1 (backM perm w)).2)).1 (notR (inputG p.1 w).2) (inputG (inputG p.1 w).1 (backM perm w)).2).1 (andG (andG (inputG (inputG p.1 w).1 (backM perm w)).1 (inputG p.1 w).2 (notR (inputG (inputG p.1 w).1 (backM perm w)).2)).1 (notR (inputG p.1 w).2) (inputG (inputG p.1 w).1 (backM perm w)).2).2 p.2).1
      (notR (andG (inputG (inputG p.1 w).1 (backM perm w)).1 (inputG p.1 w).2 (notR (inputG (inputG p.1 w).1 (backM perm w)).2)).2)
      (orG (andG (andG (inputG (inputG p.1 w).1 (backM perm w)).1 (inputG p.1 w).2 (notR (inputG (inputG p.1 w).1 (backM perm w)).2)).1 (notR (inputG p.1 w).2) (inputG (inputG p.1 w).1 (backM perm w)).2).1 (andG (andG (inputG (inputG p.1 w).1 (backM perm w)).1 (inputG p.1 w).2 (notR (inputG (inputG p.1 w).1 (backM perm w)).2)).1 (notR (inputG p.1 w).2) (inputG (inputG p.1 w).1 (backM perm w)).2).2 p.2).2)
def predM (gs : List GateM) (perm order : List Int) : List GateM × Int := order.foldr (predS perm) (gs, 0)
def ngF (f g : Int → Bool) : List Int → Bool
  | [] => true
  | w :: o => if f w = g w then ngF f g o else g w
structure Pred (gs : List GateM) (n : Nat) (p : List GateM × Int) (f : List Bool → Bool) : Prop where
  cir : CirOk p.1
  ref : RefOk p.1 p.2
  le : gs.length ≤ p.1.length
  len : p.1.length ≤ gs.length + n
  keep : ∀ v r, RefOk gs r → evalG p.1 v r = evalG gs v r
  val : ∀ v, evalG p.1 v p.2 = f v
  nodup : gs.Nodup → p.1.Nodup
theorem Pred.of {gs : List GateM} {n : Nat} {p : List GateM × Int} {f : List Bool → Bool} (h1 : Grown gs n p) (h2 : Ev gs p f) (h3 : gs.Nodup → p.1.Nodup) : Pred gs n p f := ⟨h1.cir, h1.ref, h1.le, h1.len, h2.keep, h2.val, h3⟩
theorem predS_ok {gs : List GateM} {n : Nat} {perm : List Int} {p : List GateM × Int} {f : List Bool → Bool} (hp : Pred gs n p f) (ho : PermOk perm) (hn : perm.length ≤ 1000) {w : Int} (hw : 1 ≤ w ∧ w ≤ perm.length) (hl : gs.length + n < 19000) :
    Pred gs (n + 6) (predS perm w p) (fun v => if inV v w = inV v (backM perm w) then f v else inV v (backM perm w)) := by
  obtain ⟨hc, hr, hle, hlen, hk, hv, hnd⟩ := hp
  obtain ⟨gs1, r⟩ := p
  simp only at hc hr hle hlen hk hv hnd
  have hb := ho.back hw
  unfold predS
  by_cases he : backM perm w = w
  · rw [if_pos he]
    refine ⟨hc, hr, hle, by show gs1.length ≤ _; omega, hk, fun v => ?_, hnd⟩
    show evalG gs1 v r = _
    rw [hv v, he, if_pos rfl]
  · rw [if_neg he]
    simp only
    have g1 := input_ok hc (v := w) (by omega) (by omega)
    have v1 := input_ev (gs := gs1) (w := w) (by omega) (by omega)
    have n1 := fun h => input_nodup (gs := gs1) (w := w) h
    generalize inputG gs1 w = i1 at g1 v1 n1 ⊢
    have l1 := g1.le
    have m1 := g1.len
    have g2 := input_ok g1.cir (v := backM perm w) (by omega) (by omega)
    have v2 := input_ev (gs := i1.1) (w := backM perm w) (by omega) (by omega)
    have n2 := fun h => input_nodup (gs := i1.1) (w := backM perm w) h
    generalize inputG i1.1 (backM perm w) = i2 at g2 v2 n2 ⊢
    have l2 := g2.le
    have m2 := g2.len
    have x2 := g1.ref.mono l2
    have y2 := g2.ref
    have g3 := and_ok g2.cir x2 (notR_ok y2) (by omega)
    have v3 := and_ev g2.cir x2 (notR_ok y2) (by omega)
    have n3 := fun h => and_nodup (gs := i2.1) (a := i1.2) (b := notR i2.2) h
    generalize andG i2.1 i1.2 (notR i2.2) = i3 at g3 v3 n3 ⊢
    have l3 := g3.le
    have m3 := g3.len
    have x3 := x2.mono l3
    have y3 := y2.mono l3
    have g4 := and_ok g3.cir (notR_ok x3) y3 (by omega)
    have v4 := and_ev g3.cir (notR_ok x3) y3 (by omega)
    have n4 := fun h => and_nodup (gs := i3.1) (a := notR i1.2) (b := i2.2) h
    generalize andG i3.1 (notR i1.2) i2.2 = i4 at g4 v4 n4 ⊢
    have l4 := g4.le
    have m4 := g4.len
    have r4 := ((((hr.mono l1).mono l2).mono l3).mono l4)
    have g5 := or_ok g4.cir g4.ref r4 (by omega)
    have v5 := or_ev g4.cir g4.ref r4 (by omega)
    have n5 := fun h => or_nodup (gs := i4.1) (a := i4.2) (b := r) h
    generalize orG i4.1 i4.2 r = i5 at g5 v5 n5 ⊢
    have l5 := g5.le
    have m5 := g5.len
    have s5 := (g3.ref.mono l4).mono l5
    have g6 := and_ok g5.cir (notR_ok s5) g5.ref (by omega)
    have v6 := and_ev g5.cir (notR_ok s5) g5.ref (by omega)
    have n6 := fun h => and_nodup (gs := i5.1) (a := notR i3.2) (b := i5.2) h
    generalize andG i5.1 (notR i3.2) i5.2 = i6 at g6 v6 n6 ⊢
    have l6 := g6.le
    have m6 := g6.len
    refine ⟨g6.cir, g6.ref, by omega, by omega, fun v q hq => ?_, fun v => ?_, fun h => n6 (n5 (n4 (n3 (n2 (n1 (hnd h))))))⟩
    · have q1 := hq.mono hle
      rw [v6.keep v q ((((((q1.mono l1).mono l2).mono l3).mono l4)).mono l5), v5.keep v q (((((q1.mono l1).mono l2).mono l3).mono l4)), v4.keep v q ((((q1.mono l1).mono l2).mono l3)), v3.keep v q ((q1.mono l1).mono l2), v2.keep v q (q1.mono l1), v1.keep v q q1, hk v q hq]
    · have p3 := g3.ref
      unfold RefOk at p3
      have py := y2
      unfold RefOk at py
      have px := g1.ref
      unfold RefOk at px
      have ex2 : evalG i2.1 v i1.2 = inV v w := by rw [v2.keep v _ g1.ref, v1.val]
      have ey2 : evalG i2.1 v i2.2 = inV v (backM perm w) := v2.val v
      have e3 : evalG i3.1 v i3.2 = (inV v w && !(inV v (backM perm w))) := by rw [v3.val, ex2, eval_not py.1, ey2]
      have ex3 : evalG i3.1 v i1.2 = inV v w := by rw [v3.keep v _ x2, ex2]
      have ey3 : evalG i3.1 v i2.2 = inV v (backM perm w) := by rw [v3.keep v _ y2, ey2]
      have e4 : evalG i4.1 v i4.2 = (!(inV v w) && inV v (backM perm w)) := by rw [v4.val, eval_not px.1, ex3, ey3]
      have er4 : evalG i4.1 v r = f v := by rw [v4.keep v _ (((hr.mono l1).mono l2).mono l3), v3.keep v _ ((hr.mono l1).mono l2), v2.keep v _ (hr.mono l1), v1.keep v _ hr, hv v]
      have e5 : evalG i5.1 v i5.2 = ((!(inV v w) && inV v (backM perm w)) || f v) := by rw [v5.val, e4, er4]
      have es5 : evalG i5.1 v i3.2 = (inV v w && !(inV v (backM perm w))) := by rw [v5.keep v _ (g3.ref.mono l4), v4.keep v _ g3.ref, e3]
      rw [v6.val, eval_not p3.1, es5, e5]
      cases inV v w <;> cases inV v (backM perm w) <;> simp
theorem pred_ok {gs : List GateM} {perm : List Int} (hc : CirOk gs) (ho : PermOk perm) (hn : perm.length ≤ 1000) : ∀ order : List Int, (∀ w ∈ order, 1 ≤ w ∧ w ≤ perm.length) → gs.length + 6 * order.length < 18000 → Pred gs (6 * order.length) (predM gs perm order) (fun v => ngF (inV v) (fun w => inV v (backM perm w)) order)
  | [], _, _ => ⟨hc, ⟨Int.le_refl _, by have := hc.pos; show (0 : Int) < 2 * (gs.length : Int); omega⟩, Nat.le_refl _, Nat.le_refl _, fun v r _ => rfl, fun v => evalG_0 hc v, fun h => h⟩
  | w :: o, hw, hl => by
    have ih := pred_ok hc ho hn o (fun x hx => hw x (by simp [hx])) (by simp only [List.length_cons] at hl; omega)
    have h := predS_ok ih ho hn (hw w (by simp)) (by simp only [List.length_cons] at hl; omega)
    exact h
theorem pred_id {gs : List GateM} {perm : List Int} : ∀ order : List Int, (∀ w ∈ order, backM perm w = w) → predM gs perm order = (gs, 0)
  | [], _ => rfl
  | w :: o, h => by
    show predS perm w (predM gs perm o) = _
    rw [pred_id o fun x hx => h x (by simp [hx]), predS, if_pos (h w (by simp))]
end Go.Ab
/- Chapter 24: the order of assignments, in plain terms. -/
namespace Go.Ab
open Go Go.Proofs
set_option maxRecDepth 20000
set_option maxHeartbeats 4000000
theorem ng_congr {f f' g g' : Int → Bool} : ∀ o : List Int, (∀ w ∈ o, f w = f' w) → (∀ w ∈ o, g w = g' w) → ngF f g o = ngF f' g' o
  | [], _, _ => rfl
  | w :: o, h1, h2 => by
    unfold ngF
    rw [h1 w (by simp), h2 w (by simp), ng_congr o (fun x hx => h1 x (by simp [hx])) (fun x hx => h2 x (by simp [hx]))]
def imgM (vals : List Bool) (perm : List Int) : List Bool := (invM perm).map fun w => inV vals w
theorem img_len (vals : List Bool) (perm : List Int) : (imgM vals perm).length = perm.length := by simp [imgM, inv_len]
theorem img_at (vals : List Bool) {perm : List Int} {w : Int} (hw : 1 ≤ w ∧ w ≤ perm.length) : inV (imgM vals perm) w = inV vals (backM perm w) := by
  unfold inV
  have hlt : (w - 1).toNat < (imgM vals perm).length := by rw [img_len]; omega
  rw [List.getD_eq_getElem?_getD, List.getElem?_eq_getElem hlt]
  show (imgM vals perm)[(w - 1).toNat] = _
  have : (imgM vals perm)[(w - 1).toNat] = inV vals ((invM perm)[(w - 1).toNat]'(by rw [inv_len]; omega)) := by simp [imgM]
  rw [this, inv_at hw]; rfl
def ordM (n : Nat) : List Int := (List.range n).map fun i : Nat => (i : Int) + 1
theorem ord_mem {n : Nat} {w : Int} : w ∈ ordM n ↔ 1 ≤ w ∧ w ≤ n := by
  unfold ordM
  rw [List.mem_map]
  constructor
  · rintro ⟨i, hi, rfl⟩
    have := List.mem_range.1 hi
    omega
  · intro h
    exact ⟨(w - 1).toNat, List.mem_range.2 (by omega), by omega⟩
def leadP (vals : List Bool) (perm : List Int) : Bool := ngF (inV vals) (inV (imgM vals perm)) (ordM perm.length)
def leadM (vals : List Bool) (perms : List (List Int)) : Bool := perms.all (leadP vals)
end Go.Ab
/- Chapter 24: the permutation that numbers describe, in plain terms. -/
namespace Go.Ab
open Go Go.Proofs
set_option maxRecDepth 20000
set_option maxHeartbeats 4000000
def swapL (l : List Int) (i k : Nat) : List Int := (l.set i (l.getD k 0)).set k (l.getD i 0)
def permM (raw : List Int) : Nat → List Int
  | 0 => ordM raw.length
  | i + 1 => swapL (permM raw i) i (raw.getD i 0 % (raw.length : Int)).toNat
theorem ord_len (n : Nat) : (ordM n).length = n := by simp [ordM]
theorem ord_at {n j : Nat} (h : j < (ordM n).length) : (ordM n)[j] = (j : Int) + 1 := by simp [ordM]
structure PermN (n : Nat) (l : List Int) : Prop where
  len : l.length = n
  nodup : l.Nodup
  rng : ∀ w ∈ l, 1 ≤ w ∧ w ≤ (n : Int)
theorem PermN.ok {n : Nat} {l : List Int} (h : PermN n l) : PermOk l := ⟨fun w hw => by rw [h.len]; exact h.rng w hw, h.nodup⟩
end Go.Ab
/- Chapter 24: permutations that act on a list of variables; leaders, in plain terms. -/
namespace Go.Ab
open Go Go.Proofs
set_option maxRecDepth 20000
set_option maxHeartbeats 4000000
def CompL (q p r : List Int) : Prop := r.length = p.length ∧ ∀ (i : Nat) (h : i < p.length) (h' : i < r.length), ∃ h'' : (p[i] - 1).toNat < q.length, r[i] = q[(p[i] - 1).toNat]
def litsL {α : Type} [DecidableEq α] (V : List α) (f : α → α) : List Int := V.map fun v => (V.findIdx (fun u => decide (u = f v)) : Int) + 1
theorem lits_len {α : Type} [DecidableEq α] (V : List α) (f : α → α) : (litsL V f).length = V.length := by simp [litsL]
theorem find_at {α : Type} [DecidableEq α] {V : List α} {x : α} (h : x ∈ V) : ∃ i : Nat, ∃ hi : i < V.length, V.findIdx (fun u => decide (u = x)) = i ∧ V[i] = x := by
  have hlt : V.findIdx (fun u => decide (u = x)) < V.length := by
    rw [List.findIdx_lt_length]
    exact ⟨x, h, by simp⟩
  exact ⟨_, hlt, rfl, of_decide_eq_true (List.findIdx_getElem (w := hlt))⟩
theorem find_nodup {α : Type} [DecidableEq α] {V : List α} (h : V.Nodup) {i : Nat} (hi : i < V.length) : V.findIdx (fun u => decide (u = V[i])) = i := by
  obtain ⟨j, hj, h1, h2⟩ := find_at (List.getElem_mem hi)
  rw [h1]
  exact (List.getElem_inj h).1 h2
theorem lits_at {α : Type} [DecidableEq α] {V : List α} {f : α → α} {i : Nat} (h : i < (litsL V f).length) : (litsL V f)[i] = (V.findIdx (fun u => decide (u = f (V[i]'(by rwa [lits_len] at h)))) : Int) + 1 := by simp [litsL]
theorem lits_perm {α : Type} [DecidableEq α] {V : List α} (hV : V.Nodup) {f : α → α} (hf : ∀ v ∈ V, f v ∈ V) (hi : ∀ u ∈ V, ∀ v ∈ V, f u = f v → u = v) : PermN V.length (litsL V f) := by
  refine ⟨lits_len V f, ?_, fun w hw => ?_⟩
  · unfold List.Nodup
    rw [List.pairwise_iff_getElem]
    intro a b ha hb hab e
    rw [lits_at ha, lits_at hb] at e
    rw [lits_len] at ha hb
    obtain ⟨i, i0, i1, i2⟩ := find_at (hf _ (List.getElem_mem ha))
    obtain ⟨j, j0, j1, j2⟩ := find_at (hf _ (List.getElem_mem hb))
    rw [i1, j1] at e
    have hij : i = j := by omega
    subst hij
    have := hi _ (List.getElem_mem ha) _ (List.getElem_mem hb) (i2.symm.trans j2)
    have := (List.getElem_inj hV).1 this
    omega
  · obtain ⟨i, hi', rfl⟩ := List.getElem_of_mem hw
    rw [lits_at hi']
    rw [lits_len] at hi'
    obtain ⟨j, j0, j1, j2⟩ := find_at (hf _ (List.getElem_mem hi'))
    rw [j1]
    omega
theorem lits_comp {α : Type} [DecidableEq α] {V : List α} (hV : V.Nodup) {f g k : α → α} (hg : ∀ v ∈ V, g v ∈ V) (hk : ∀ v ∈ V, k v = f (g v)) : CompL (litsL V f) (litsL V g) (litsL V k) := by
  refine ⟨by rw [lits_len, lits_len], fun i h h' => ?_⟩
  have hi : i < V.length := by rwa [lits_len] at h
  obtain ⟨j, j0, j1, j2⟩ := find_at (hg _ (List.getElem_mem hi))
  have e : ((litsL V g)[i] - 1).toNat = j := by rw [lits_at h, j1]; omega
  refine ⟨by rw [e, lits_len]; exact j0, ?_⟩
  have e2 : (litsL V f)[((litsL V g)[i] - 1).toNat]'(by rw [e, lits_len]; exact j0) = (litsL V f)[j]'(by rw [lits_len]; exact j0) := by simp only [e]
  rw [e2, lits_at h', lits_at, j2, hk _ (List.getElem_mem hi)]
theorem lits_id {α : Type} [DecidableEq α] {V : List α} (hV : V.Nodup) {f : α → α} (hf : ∀ v ∈ V, f v = v) {i : Nat} (h : i < (litsL V f).length) : (litsL V f)[i] = (i : Int) + 1 := by
  have hi : i < V.length := by rwa [lits_len] at h
  rw [lits_at h, hf _ (List.getElem_mem hi), find_nodup hV hi]
end Go.Ab
/-
  DERIVED: THE SHELF's CONTRACTS AT THIS DUMP, IN PLAIN WORDS (tools/lay-plain.mjs out of 'TryShelf.lean', which tools/lay-shelf.mjs wrote): THE SAME DECLARATIONS UNDER THE SAME NAMES: 'import', 'namespace', 'open', 'def', 'theorem' AND NOTHING ELSE: no command of the shelf's: FOR A HAND-IN. Each laying: the table of numbers ('.._ren') and one theorem, a field a fact of the dump's own or the kernel's comparison; each contract: ONE APPLICATION.
-/
namespace Go.Proofs
open Go.Shelf
def Try.lays189_ren : Go.Shelf.Ren := ⟨fun | 189 => 38 | 125 => 65 | 257 => 64 | 128 => 99 | 129 => 100 | 294 => 90 | 295 => 91 | 296 => 92 | 297 => 93 | 298 => 94 | 299 => 95 | 216 => 96 | 300 => 97 | 301 => 98 | 328 => 109 | 329 => 110 | 330 => 111 | 331 => 112 | 332 => 113 | 215 => 114 | 343 => 121 | n => n, fun | 28 => 26 | 3 => 3 | 46 => 127 | 0 => 0 | 51 => 157 | 53 => 159 | 4 => 4 | 183 => 150 | 182 => 149 | 131 => 154 | 5 => 5 | 9 => 9 | 218 => 165 | 222 => 169 | 228 => 175 | 229 => 176 | n => n, fun | n => n⟩
theorem Try.lays189 : Go.Proofs.Lays.n189 Try.prog Try.lays189_ren := {
  mixed := by kernel_rfl
  f125 := Try.func65.trans (congrArg some (by kernel_rfl))
  f128 := Try.func99.trans (congrArg some (by kernel_rfl))
  f129 := Try.func100.trans (congrArg some (by kernel_rfl))
  f189 := Try.func38.trans (congrArg some (by kernel_rfl))
  f215 := Try.func114.trans (congrArg some (by kernel_rfl))
  f216 := Try.func96.trans (congrArg some (by kernel_rfl))
  f257 := Try.func64.trans (congrArg some (by kernel_rfl))
  f294 := Try.func90.trans (congrArg some (by kernel_rfl))
  f295 := Try.func91.trans (congrArg some (by kernel_rfl))
  f296 := Try.func92.trans (congrArg some (by kernel_rfl))
  f297 := Try.func93.trans (congrArg some (by kernel_rfl))
  f298 := Try.func94.trans (congrArg some (by kernel_rfl))
  f299 := Try.func95.trans (congrArg some (by kernel_rfl))
  f300 := Try.func97.trans (congrArg some (by kernel_rfl))
  f301 := Try.func98.trans (congrArg some (by kernel_rfl))
  f328 := Try.func109.trans (congrArg some (by kernel_rfl))
  f329 := Try.func110.trans (congrArg some (by kernel_rfl))
  f330 := Try.func111.trans (congrArg some (by kernel_rfl))
  f331 := Try.func112.trans (congrArg some (by kernel_rfl))
  f332 := Try.func113.trans (congrArg some (by kernel_rfl))
  f343 := Try.func121.trans (congrArg some (by kernel_rfl))
  t0 := Try.underlying0
  a0 := Try.isAgg0
  z0 := Try.sizeOf0
  v0 := Try.zeroValue0
  t3 := Try.underlying3
  a3 := Try.isAgg3
  z3 := Try.sizeOf3
  v3 := Try.zeroValue3
  t4 := Try.underlying4
  a4 := Try.isAgg4
  z4 := Try.sizeOf4
  v4 := Try.zeroValue4
  t5 := Try.underlying5
  a5 := Try.isAgg5
  z5 := Try.sizeOf5
  v5 := Try.zeroValue5
  t9 := Try.underlying9
  a9 := Try.isAgg9
  z9 := Try.sizeOf9
  v9 := Try.zeroValue9
  t28 := Try.underlying26
  a28 := Try.isAgg26
  z28 := Try.sizeOf26
  v28 := Try.zeroValue26
  t46 := Try.underlying127
  a46 := Try.isAgg127
  z46 := Try.sizeOf127
  v46 := Try.zeroValue127
  t51 := Try.underlying157
  a51 := Try.isAgg157
  z51 := Try.sizeOf157
  v51 := Try.zeroValue157
  t53 := Try.underlying159
  a53 := Try.isAgg159
  z53 := Try.sizeOf159
  v53 := Try.zeroValue159
  t131 := Try.underlying154
  a131 := Try.isAgg154
  z131 := Try.sizeOf154
  v131 := Try.zeroValue154
  t182 := Try.underlying149
  a182 := Try.isAgg149
  z182 := Try.sizeOf149
  v182 := Try.zeroValue149
  t183 := Try.underlying150
  a183 := Try.isAgg150
  z183 := Try.sizeOf150
  v183 := Try.zeroValue150
  t218 := Try.underlying165
  a218 := Try.isAgg165
  z218 := Try.sizeOf165
  v218 := Try.zeroValue165
  t222 := Try.underlying169
  a222 := Try.isAgg169
  z222 := Try.sizeOf169
  v222 := Try.zeroValue169
  t228 := Try.underlying175
  a228 := Try.isAgg175
  z228 := Try.sizeOf175
  v228 := Try.zeroValue175
  t229 := Try.underlying176
  a229 := Try.isAgg176
  z229 := Try.sizeOf176
  v229 := Try.zeroValue176 }
open Go.Sort Go.RowKit in
theorem Try.slices_Sort_int (blk off cap : Nat) (zs : List Int) (w : World) (hH : Holds (Value.int .i64) w blk off zs.toArray) (hblk : blk < w.heap.size) (hsz : zs.length < 4611686018427387904) :
    Calls Try.prog 38 #[.slice (some ⟨blk, off, none⟩) zs.length cap] w fun e w' =>
      e = .returned (.tuple #[]) ∧ ∃ n os, w' = grow (putRow (Value.int .i64) (Sort.ahead w n) blk off (zs.mergeSort fun x y => decide (x ≤ y)).toArray) os := Any.slices_Sort_int Try.lays189 blk off cap zs w hH hblk hsz
def Try.laysNm225_ren : Go.Shelf.Ren := ⟨fun | 25 => 118 | 31 => 96 | 32 => 122 | 37 => 114 | n => n, fun | 22 => 26 | 3 => 3 | 4 => 4 | 40 => 127 | 0 => 0 | n => n, fun | n => n⟩
theorem Try.laysNm225 : Go.Proofs.Lays2.n25 Try.prog Try.laysNm225_ren := {
  mixed := by kernel_rfl
  f25 := Try.func118.trans (congrArg some (by kernel_rfl))
  f31 := Try.func96.trans (congrArg some (by kernel_rfl))
  f32 := Try.func122.trans (congrArg some (by kernel_rfl))
  f37 := Try.func114.trans (congrArg some (by kernel_rfl))
  t0 := Try.underlying0
  a0 := Try.isAgg0
  z0 := Try.sizeOf0
  v0 := Try.zeroValue0
  t3 := Try.underlying3
  a3 := Try.isAgg3
  z3 := Try.sizeOf3
  v3 := Try.zeroValue3
  t4 := Try.underlying4
  a4 := Try.isAgg4
  z4 := Try.sizeOf4
  v4 := Try.zeroValue4
  t22 := Try.underlying26
  a22 := Try.isAgg26
  z22 := Try.sizeOf26
  v22 := Try.zeroValue26
  t40 := Try.underlying127
  a40 := Try.isAgg127
  z40 := Try.sizeOf127
  v40 := Try.zeroValue127 }
open Go.RowKit Go.Lib in
theorem Try.slices_BinarySearch_int (b off n c : Nat) (zs : List Int) (x : Int) (w : World) (hz : n ≤ zs.length) (hbig : n < 4611686018427387904) (hc : ∀ j, j < zs.length → w.cell? ⟨b, off + j, none⟩ = some (.int .i64 (zs.getD j 0))) (hs : (zs.take n).Pairwise (· ≤ ·)) :
    Calls Try.prog 118 #[.slice (some ⟨b, off, none⟩) n c, .int .i64 x] w fun e w' => e = .returned (.tuple #[.int .i64 ((zs.take n).countP (· < x) : Nat), .bool ((zs.take n).contains x)]) ∧ ∃ q, w' = w.drewN q := Any.slices_BinarySearch_int Try.laysNm225 b off n c zs x w hz hbig hc hs
open Go.RowKit Go.Sort in
theorem Try.slices_Sort_int_none (p : Option Addr) (cap : Nat) (w : World) :
    Calls Try.prog 38 #[.slice p 0 cap] w fun e w' => e = .returned (.tuple #[]) ∧ w' = w := Any.slices_Sort_int_none Try.lays189 p cap w
open Go.RowKit Go.Lib in
theorem Try.slices_BinarySearch_int_empty (a : Option Addr) (c : Nat) (x : Int) (w : World) :
    Calls Try.prog 118 #[.slice a 0 c, .int .i64 x] w fun e w' => e = .returned (.tuple #[.int .i64 0, .bool false]) ∧ w' = w := Any.slices_BinarySearch_int_empty Try.laysNm225 a c x w
end Go.Proofs
/- Go's slices.Sort and slices.Compact at numbers, as callees that rewrite a row. -/
namespace Go.Ab
open Go Go.Proofs Go.RowKit
def sortL (zs : List Int) : List Int := zs.mergeSort fun x y => decide (x ≤ y)
def compL (zs : List Int) : List Int := Go.Lib.compact zs
def compZ (zs : List Int) : List Int := compL zs ++ List.replicate (zs.length - (compL zs).length) 0
theorem compL_le (zs : List Int) : (compL zs).length ≤ zs.length := by
  unfold compL Go.Lib.compact Go.Lib.compactUpTo
  rw [List.length_map]
  exact Nat.le_trans (List.length_filter_le _ _) (by simp)
theorem sort_rowC : RowC Try.prog 38 sortL none where
  enters := enters_of Try.func38 rfl (by decide)
  len := fun zs => by simp [sortL]
  retle := fun r h => by cases h
  calls := fun b cap zs w hH hb hl _ => Try.slices_Sort_int b 0 cap zs w hH hb (by omega)
  nil := fun w => (Try.slices_Sort_int_none none 0 w).mono fun e w' ⟨h1, h2⟩ => ⟨h1, h2 ▸ Below.refl _ _⟩
end Go.Ab
/- Lists of numbers put in order, each number once. -/
namespace Go.Ab
open Go Go.Proofs
abbrev Inc (l : List Int) : Prop := l.Pairwise (· < ·)
theorem inc_ext : ∀ {a b : List Int}, Inc a → Inc b → (∀ x, x ∈ a ↔ x ∈ b) → a = b
  | [], [], _, _, _ => rfl
  | [], y :: b, _, _, h => by have := (h y).2 (by simp); simp at this
  | x :: a, [], _, _, h => by have := (h x).1 (by simp); simp at this
  | x :: a, y :: b, ha, hb, h => by
    have ha' := List.pairwise_cons.1 ha
    have hb' := List.pairwise_cons.1 hb
    have hxy : x = y := by
      have h1 := (h x).1 (by simp)
      have h2 := (h y).2 (by simp)
      rcases List.mem_cons.1 h1 with e | h1
      · exact e
      · rcases List.mem_cons.1 h2 with e | h2
        · exact e.symm
        · have := hb'.1 x h1
          have := ha'.1 y h2
          omega
    subst hxy
    rw [inc_ext ha'.2 hb'.2 fun z => ?_]
    constructor
    · intro hz
      have h1 := ha'.1 z hz
      rcases List.mem_cons.1 ((h z).1 (by simp [hz])) with e | h2
      · omega
      · exact h2
    · intro hz
      have h1 := hb'.1 z hz
      rcases List.mem_cons.1 ((h z).2 (by simp [hz])) with e | h2
      · omega
      · exact h2
theorem getBang {zs : List Int} {j : Nat} (hj : j < zs.length) : zs.toArray[j]! = zs[j] := by simp [hj]
theorem mem_comp {zs : List Int} {x : Int} : x ∈ compL zs ↔ ∃ j, ∃ h : j < zs.length, zs[j] = x ∧ (j = 0 ∨ ∃ h' : j - 1 < zs.length, zs[j] ≠ zs[j - 1]) := by
  unfold compL Go.Lib.compact Go.Lib.compactUpTo
  simp only [List.mem_map, List.mem_filter, List.mem_range, Go.Lib.keeps, decide_eq_true_eq]
  constructor
  · rintro ⟨j, ⟨hj, hk⟩, rfl⟩
    refine ⟨j, hj, (getBang hj).symm, ?_⟩
    rcases hk with hk | hk
    · exact .inl hk
    · by_cases h0 : j = 0
      · exact .inl h0
      · right
        refine ⟨by omega, ?_⟩
        rwa [getBang hj, getBang (by omega)] at hk
  · rintro ⟨j, hj, rfl, hk⟩
    refine ⟨j, ⟨hj, ?_⟩, getBang hj⟩
    rcases hk with hk | ⟨h', hk⟩
    · exact .inl hk
    · right
      rwa [getBang hj, getBang h']
theorem comp_mem {zs : List Int} {x : Int} : x ∈ compL zs ↔ x ∈ zs := by
  rw [mem_comp]
  constructor
  · rintro ⟨j, hj, rfl, _⟩; exact List.getElem_mem hj
  · intro hx
    obtain ⟨j, hj, rfl⟩ := List.getElem_of_mem hx
    induction j with
    | zero => exact ⟨0, hj, rfl, .inl rfl⟩
    | succ j ih =>
      by_cases e : zs[j + 1] = zs[j]
      · obtain ⟨i, hi, h1, h2⟩ := ih (by omega) (List.getElem_mem _)
        exact ⟨i, hi, h1.trans e.symm, h2⟩
      · exact ⟨j + 1, hj, rfl, .inr ⟨by omega, e⟩⟩
theorem comp_inc {zs : List Int} (h : zs.Pairwise (· ≤ ·)) : Inc (compL zs) := by
  unfold compL Go.Lib.compact Go.Lib.compactUpTo Inc
  rw [List.pairwise_map]
  have h1 : ((List.range zs.length).filter (Go.Lib.keeps zs.toArray)).Pairwise (· < ·) := List.Pairwise.filter _ List.pairwise_lt_range
  refine List.Pairwise.imp_of_mem (fun {i j} hi hj hij => ?_) h1
  simp only [List.mem_filter, List.mem_range, Go.Lib.keeps, decide_eq_true_eq] at hi hj
  obtain ⟨hi1, _⟩ := hi
  obtain ⟨hj1, hj2⟩ := hj
  rw [getBang hi1, getBang hj1]
  rw [List.pairwise_iff_getElem] at h
  rcases hj2 with h0 | h0
  · omega
  · have hjm : j - 1 < zs.length := by omega
    have h2 : zs[j - 1] ≤ zs[j] := h (j - 1) j hjm hj1 (by omega)
    rw [getBang hj1, getBang hjm] at h0
    by_cases e : i = j - 1
    · subst e; omega
    · have h3 : zs[i] ≤ zs[j - 1] := h i (j - 1) hi1 hjm (by omega)
      omega
theorem sort_mem {zs : List Int} {x : Int} : x ∈ sortL zs ↔ x ∈ zs := (List.mergeSort_perm zs _).mem_iff
theorem sort_le (zs : List Int) : (sortL zs).Pairwise (· ≤ ·) := by
  have := List.pairwise_mergeSort (le := fun x y : Int => decide (x ≤ y)) (fun a b c h1 h2 => by simp only [decide_eq_true_eq] at *; omega) (fun a b => by simp only [Bool.or_eq_true, decide_eq_true_eq]; omega) zs
  exact this.imp fun h => by simpa using h
def canon (zs : List Int) : List Int := compL (sortL zs)
theorem canon_inc (zs : List Int) : Inc (canon zs) := comp_inc (sort_le zs)
theorem canon_mem {zs : List Int} {x : Int} : x ∈ canon zs ↔ x ∈ zs := by unfold canon; rw [comp_mem, sort_mem]
theorem canon_len (zs : List Int) : (canon zs).length ≤ zs.length := by
  have h1 := compL_le (sortL zs)
  have h2 : (sortL zs).length = zs.length := by simp [sortL]
  unfold canon; omega
theorem canon_id {zs : List Int} (h : Inc zs) : canon zs = zs := inc_ext (canon_inc zs) h fun x => canon_mem
theorem canon_congr {a b : List Int} (h : ∀ x, x ∈ a ↔ x ∈ b) : canon a = canon b := inc_ext (canon_inc a) (canon_inc b) fun x => by rw [canon_mem, canon_mem, h]
end Go.Ab
/- Chapter 24: the reference's functions on permutations and assignments, walked. -/
namespace Go.Ab
open Go Go.Proofs
open Nat (reduceAdd reduceSub)
set_option maxRecDepth 20000
set_option maxHeartbeats 4000000
def atM (perm : List Int) (w : Int) (k : Nat) : Int := if perm.findIdx (fun x => decide (x = w)) < k then (perm.findIdx (fun x => decide (x = w)) : Nat) + 1 else w
attribute [local irreducible] AW AOps thenD inBlockD AR iterEnds roundEndsN inlEnds noGotoD canon ordM invM backM atM ngF
end Go.Ab
/- Chapter 19: the reference's circuits, walked. -/
namespace Go.Ab
open Go Go.Proofs
open Nat (reduceAdd reduceSub)
set_option maxRecDepth 20000
set_option maxHeartbeats 4000000
attribute [local irreducible] AW AOps thenD inBlockD AR iterEnds roundEndsN inlEnds noGotoD
theorem gAny_snoc {gs : List GateM} {g : GateM} {k : Nat} (hk : k < gs.length) : (gs.take (k + 1)).any (fun h => decide (h = g)) = ((gs.take k).any (fun h => decide (h = g)) || decide (gs[k] = g)) := by
  rw [take_succ_get hk, List.any_append]; simp
theorem findG_yes {gs : List GateM} {g : GateM} {k : Nat} (hk : k < gs.length) (h0 : (gs.take k).any (fun h => decide (h = g)) = false) (he : gs[k] = g) : findG gs g = (k : Int) := by
  have h1 : gs.any (fun h => decide (h = g)) = true := List.any_eq_true.2 ⟨gs[k], List.getElem_mem hk, by simpa using he⟩
  unfold findG
  rw [if_pos h1]
  congr 1
  rw [List.findIdx_eq (by exact hk)]
  refine ⟨by simpa using he, fun j hj => ?_⟩
  rw [List.any_eq_false] at h0
  have := h0 gs[j] (List.mem_take_iff_getElem.2 ⟨j, by omega, rfl⟩)
  simpa using this
theorem findG_no {gs : List GateM} {g : GateM} (h0 : gs.any (fun h => decide (h = g)) = false) : findG gs g = -1 := by
  unfold findG
  rw [if_neg (by rw [h0]; simp)]
theorem gate_eq {x y : GateM} : x = y ↔ x.k = y.k ∧ x.a = y.a ∧ x.b = y.b := by
  cases x; cases y; simp
abbrev gtV (g : GateM) : AV := .agg [litI g.k, litI g.a, litI g.b]
theorem c13New_fn : Fn Try.prog 19 [] (crc [⟨0, 0, 0⟩]) := by
  refine Fn.enter (n := 4) Try.func19 rfl rfl rfl rfl rfl (by decide) fun g hro_ hwt_ => ?_; (try refine nz ?_)
  (refine zq ?_; refine AOps.allocN' rfl rfl rfl rfl ?_; refine nz ?_; refine zd ?_; refine zq ?_; refine AOps.buildN 82 [] rfl rfl rfl rfl rfl rfl rfl rfl rfl ?_; refine nz ?_; refine AOps.bs1a3 rfl rfl rfl rfl rfl rfl rfl rfl rfl rfl ?_; refine nz ?_; refine AOps.buildN 31 [0] rfl rfl rfl rfl rfl rfl rfl rfl rfl ?_; refine nz ?_; refine zB ?_; refine nz ?_; refine zd ?_; refine AW.ret ?_)
  (apply ends_ret; (exact Res.one (.cell rfl rfl rfl rfl)); (refine Le.aggL ?_; refine LeL.cons ?_ ?_; exact Le.own _ _ _ _ rfl; exact LeL.nil))
end Go.Ab
/- Chapter 19: the reference's circuits built, walked. -/
namespace Go.Ab
open Go Go.Proofs
open Nat (reduceAdd reduceSub)
set_option maxRecDepth 20000
set_option maxHeartbeats 4000000
attribute [local irreducible] AW AOps thenD inBlockD AR iterEnds roundEndsN inlEnds noGotoD findG
theorem notR_b {r : Int} (h : -500000 ≤ r ∧ r ≤ 500000) : -500001 ≤ notR r ∧ notR r ≤ 500001 := by unfold notR; split <;> (try split) <;> omega
theorem andG_b {gs : List GateM} {a b : Int} (hl : gs.length ≤ 100000) (ha : -1000000 ≤ a ∧ a ≤ 1000000) (hb : -1000000 ≤ b ∧ b ≤ 1000000) : -1 ≤ (andG gs a b).2 ∧ (andG gs a b).2 ≤ 2 * (gs.length : Int) + 1 ∧ (andG gs a b).1.length ≤ gs.length + 1 := by
  have hf := findG_range (gs := gs) (g := ⟨2, min a b, max a b⟩)
  unfold andG
  split
  · simp only; omega
  · split
    · simp only; omega
    · split
      · simp only; omega
      · split
        · simp only; omega
        · unfold shareG
          split
          · simp only; omega
          · split
            · simp only; omega
            · simp only [List.length_append, List.length_cons, List.length_nil]; omega
end Go.Ab
/- Chapter 19: construction steps, walked. -/
namespace Go.Ab
open Go Go.Proofs
open Nat (reduceAdd reduceSub)
set_option maxRecDepth 20000
set_option maxHeartbeats 4000000
attribute [local irreducible] AW AOps thenD inBlockD AR iterEnds roundEndsN inlEnds noGotoD
end Go.Ab
/- Chapter 24: the law's permutation; the circuits' Valid and Same, walked. -/
namespace Go.Ab
open Go Go.Proofs
open Nat (reduceAdd reduceSub)
set_option maxRecDepth 20000
set_option maxHeartbeats 4000000
theorem getD_of {α : Type} {l : List α} {i : Nat} {d : α} (h : i < l.length) : l.getD i d = l[i] := by rw [List.getD_eq_getElem?_getD, List.getElem?_eq_getElem h]; rfl
attribute [local irreducible] AW AOps thenD inBlockD AR iterEnds roundEndsN inlEnds noGotoD canon ordM invM backM atM ngF permM swapL
end Go.Ab
/- Chapter 24: the program's circuits, walked. -/
namespace Go.Ab
open Go Go.Proofs
open Nat (reduceAdd reduceSub)
set_option maxRecDepth 20000
set_option maxHeartbeats 4000000
attribute [local irreducible] AW AOps thenD inBlockD AR iterEnds roundEndsN inlEnds noGotoD findG
theorem gIndex_fn (gs : List GateM) (x : GateM) : Fn Try.prog 115 [.pv (gatesV gs), gtV x] (litI (findG gs x)) := by
  refine Fn.enter (n := 19) Try.func115 rfl rfl rfl rfl rfl (by decide) fun g hro_ hwt_ => ?_; (try refine nz ?_)
  refine AW.len_map 0 rfl fun hlen => ?_
  (refine zq ?_; refine AOps.box rfl rfl rfl rfl ?_; refine nz ?_; refine za ?_; refine zd ?_; refine zo ?_; refine zq ?_; refine nz ?_; refine zm ?_; refine zn ?_; refine zm ?_; refine zd ?_; refine AW.block ?_)
  (refine nz ?_; apply AW.loopR [7, 3, 0] [0] (fun k : Nat => ([(8, litI k)] : List (Nat × AV))) (fun k : Nat => ([] : List (Nat × Option Ob))) (fun k : Nat => k ≤ gs.length ∧ (gs.take k).any (fun h => decide (h = x)) = false) (fun k : Nat => gs.length - k) (0); (conv => lhs; simp only [Nf.lpR, Nf.all, Nat.reduceBEq, reduceAdd, reduceSub]); (all_goals skip))
  · exact ⟨Nat.zero_le _, rfl⟩
  · exact weak rfl (by (refine ⟨.eq rfl rfl, ?_⟩; (iterate 3 refine ⟨.eq rfl rfl, ?_⟩); exact trivial)) (by (refine ⟨.box _ rfl ?_, ?_⟩; (iterate 3 refine ⟨.eq rfl rfl, ?_⟩); (iterate 2 exact trivial))) rfl
  rintro k ⟨hk, hno⟩
  by_cases hlt : k < gs.length
  · have hs := gAny_snoc (g := x) hlt
    rw [hno, Bool.false_or] at hs
    by_cases he : gs[k] = x
    · have h1 := findG_yes hlt hno he
      have h2 := gate_eq.1 he.symm
      rw [h1]
      (refine zq ?_; refine zs ?_; refine zd ?_; refine zo ?_; refine zc ?_; refine AW.skip ?_; refine thenD_n ?_; refine zo ?_; refine AW.block ?_; refine zq ?_; refine nz ?_; refine zm ?_; refine za ?_; refine zd ?_; refine zo ?_; (with_reducible apply AW.regionQ); exact rfl; exact rfl; kernel_rfl; (with_reducible assumption); refine zL ?_; refine nz ?_; (iterate 2 refine zm ?_); (focus ((with_reducible apply AOps.index_map); (iterate 7 exact rfl); rotate_left; omega)); refine AOps.load_rn rfl rfl rfl rfl ?_; refine nz ?_; refine AOps.eql3 rfl rfl (by kernel_rfl) rfl rfl rfl ?_; refine zd ?_; refine zc ?_; refine zq ?_; refine nz ?_; refine zm ?_; refine za ?_; refine zd ?_; refine AW.ret ?_; refine inBlockD_ret ?_; (iterate 2 refine thenD_ret ?_); refine inBlockD_ret ?_; refine thenD_ret ?_)
      (apply ends_ret; (exact Res.one (.tmp rfl rfl)); (refine Le.litI ?_; (rfl)))
    · rw [decide_eq_false he] at hs
      have h2 : ¬ (x.k = gs[k].k ∧ x.a = gs[k].a ∧ x.b = gs[k].b) := fun h => he (gate_eq.2 h).symm
      (refine zq ?_; refine zs ?_; refine zd ?_; refine zo ?_; refine zc ?_; refine AW.skip ?_; refine thenD_n ?_; refine zo ?_; refine AW.block ?_; refine zq ?_; refine nz ?_; refine zm ?_; refine za ?_; refine zd ?_; refine zo ?_; (with_reducible apply AW.regionQ); exact rfl; exact rfl; kernel_rfl; (with_reducible assumption); refine zL ?_; refine nz ?_; (iterate 2 refine zm ?_); (focus ((with_reducible apply AOps.index_map); (iterate 7 exact rfl); rotate_left; omega)); refine AOps.load_rn rfl rfl rfl rfl ?_; refine nz ?_; refine AOps.eql3 rfl rfl (by kernel_rfl) rfl rfl rfl ?_; refine zd ?_; refine zk ?_; refine AW.skip ?_; refine inBlockD_n ?_; refine thenD_n ?_; refine AW.region ?_; refine nz ?_; refine zj ?_; refine zm ?_; refine zd ?_)
      exact ⟨k + 1, ⟨by omega, hs⟩, by omega, weak rfl (by (refine ⟨.eq rfl rfl, ?_⟩; (iterate 3 refine ⟨.eq rfl rfl, ?_⟩); exact trivial)) (by (refine ⟨.box _ rfl ?_, ?_⟩; (iterate 3 refine ⟨.eq rfl rfl, ?_⟩); (iterate 2 exact trivial))) rfl⟩
  · rw [take_all (l := gs) (by omega)] at hno
    rw [findG_no hno]
    (refine zq ?_; refine zs ?_; refine zd ?_; refine zo ?_; refine zk ?_; refine AW.exit ?_; (iterate 2 refine thenD_exit ?_); refine inBlockD_exit ?_; refine thenD_n ?_; refine zq ?_; refine nz ?_; refine za ?_; refine zd ?_; refine AW.ret ?_)
    (apply ends_ret; (exact Res.one (.tmp rfl rfl)); (refine Le.litI ?_; (rfl)))
theorem gClip_fn (gs : List GateM) (hne : 0 < gs.length) : Fn Try.prog 116 [.pv (gatesV gs)] (.pv (.clip 3 (gs.map encG))) := by
  refine Fn.enter (n := 9) Try.func116 rfl rfl rfl rfl rfl (by decide) fun g hro_ hwt_ => ?_; (try refine nz ?_)
  (refine zq ?_; refine za ?_; refine zd ?_; refine zq ?_; refine nz ?_; (iterate 2 refine zm ?_); refine zn ?_; refine zm ?_; refine zn ?_; refine AOps.slice_clip rfl rfl rfl rfl rfl rfl rfl rfl rfl (by omega) ?_; refine za ?_; refine zd ?_; refine AW.ret ?_)
  (apply ends_ret; (exact Res.one (.tmp rfl rfl)); (exact Le.pv _))
theorem pShare_fn (gs : List GateM) (x : GateM) (hl : gs.length ≤ 1000000) (hne : 0 < gs.length) : Fn Try.prog 102 [crc gs, gtV x] (.tup [crc (shareG gs x).1, litI (shareG gs x).2]) := by
  have hf := gIndex_fn gs x
  have hcl := gClip_fn gs hne
  have hr := findG_range (gs := gs) (g := x)
  unfold shareG
  generalize findG gs x = i at hf hr ⊢
  refine Fn.enter (n := 32) Try.func102 rfl rfl rfl rfl rfl (by decide) fun g hro_ hwt_ => ?_; (try refine nz ?_)
  by_cases h0 : 0 ≤ i
  · rw [if_pos h0]
    (refine zq ?_; refine AOps.box rfl rfl rfl rfl ?_; refine nz ?_; refine AOps.box rfl rfl rfl rfl ?_; refine nz ?_; refine AOps.allocN' rfl rfl rfl rfl ?_; refine nz ?_; refine za ?_; refine zd ?_; refine zo ?_; refine zq ?_; refine nz ?_; refine AOps.fieldAddrN 31 0 0 rfl rfl rfl rfl ?_; refine zb ?_; refine zL ?_; refine nz ?_; refine zA (hf) ?_; refine za ?_; refine zd ?_; refine zq ?_; refine nz ?_; refine zm ?_; refine AOps.geq rfl rfl rfl rfl rfl ?_; refine zd ?_; refine zc ?_; refine zq ?_; refine nz ?_; refine zL ?_; refine nz ?_; refine zm ?_; refine AOps.mul rfl rfl rfl rfl rfl (by omega) ?_; refine zB ?_; refine nz ?_; refine za ?_; refine zd ?_; refine AW.ret ?_; refine thenD_ret ?_)
    (apply ends_ret; (exact Res.two (.cell rfl rfl rfl rfl) (.tmp rfl rfl)); (refine Le.tupL ?_; refine LeL.cons ?_ ?_; refine Le.aggL ?_; refine LeL.cons ?_ ?_; (with_reducible exact Le.pv _); exact LeL.nil; refine LeL.cons ?_ ?_; refine Le.litI ?_; (rfl); exact LeL.nil))
  · rw [if_neg h0]
    by_cases h1 : 20000 ≤ gs.length
    · rw [if_pos h1]
      (refine zq ?_; refine AOps.box rfl rfl rfl rfl ?_; refine nz ?_; refine AOps.box rfl rfl rfl rfl ?_; refine nz ?_; refine AOps.allocN' rfl rfl rfl rfl ?_; refine nz ?_; refine za ?_; refine zd ?_; refine zo ?_; refine zq ?_; refine nz ?_; refine AOps.fieldAddrN 31 0 0 rfl rfl rfl rfl ?_; refine zb ?_; refine zL ?_; refine nz ?_; refine zA (hf) ?_; refine za ?_; refine zd ?_; refine zq ?_; refine nz ?_; refine zm ?_; refine AOps.geq rfl rfl rfl rfl rfl ?_; refine zd ?_; refine zk ?_; refine AW.skip ?_; refine thenD_n ?_; refine zo ?_; refine zq ?_; refine nz ?_; refine AOps.fieldAddrN 31 0 0 rfl rfl rfl rfl ?_; refine zb ?_; refine zn ?_; refine AOps.geq rfl rfl rfl rfl rfl ?_; refine zd ?_; refine zc ?_; refine zq ?_; refine nz ?_; refine zL ?_; refine nz ?_; refine zB ?_; refine nz ?_; refine za ?_; refine zd ?_; refine AW.ret ?_; refine thenD_ret ?_)
      (apply ends_ret; (exact Res.two (.cell rfl rfl rfl rfl) (.tmp rfl rfl)); (refine Le.tupL ?_; refine LeL.cons ?_ ?_; refine Le.aggL ?_; refine LeL.cons ?_ ?_; (with_reducible exact Le.pv _); exact LeL.nil; refine LeL.cons ?_ ?_; refine Le.litI ?_; (rfl); exact LeL.nil))
    · rw [if_neg h1]
      (refine zq ?_; refine AOps.box rfl rfl rfl rfl ?_; refine nz ?_; refine AOps.box rfl rfl rfl rfl ?_; refine nz ?_; refine AOps.allocN' rfl rfl rfl rfl ?_; refine nz ?_; refine za ?_; refine zd ?_; refine zo ?_; refine zq ?_; refine nz ?_; refine AOps.fieldAddrN 31 0 0 rfl rfl rfl rfl ?_; refine zb ?_; refine zL ?_; refine nz ?_; refine zA (hf) ?_; refine za ?_; refine zd ?_; refine zq ?_; refine nz ?_; refine zm ?_; refine AOps.geq rfl rfl rfl rfl rfl ?_; refine zd ?_; refine zk ?_; refine AW.skip ?_; refine thenD_n ?_; refine zo ?_; refine zq ?_; refine nz ?_; refine AOps.fieldAddrN 31 0 0 rfl rfl rfl rfl ?_; refine zb ?_; refine zn ?_; refine AOps.geq rfl rfl rfl rfl rfl ?_; refine zd ?_; refine zk ?_; refine AW.skip ?_; refine thenD_n ?_; refine zo ?_; (with_reducible apply AW.keepR 6 14 [2,3,4]); exact rfl; (conv => rhs; simp only [keep0, keep1, memN0, memN1, Nat.reduceBEq, cond_true, cond_false]); refine AW.regionM [0, 1, 3] [11] rfl (by assumption) (by kernel_rfl) (by kernel_rfl) rfl ?_; show AOps .held _ _ _ [_, _, _] _ _; refine AOps.fieldAddrN 31 0 0 rfl rfl rfl rfl ?_; refine zb ?_; refine zL ?_; refine nz ?_; refine AOps.nil ?_; refine onlyN_n ?_; intro k_ hk_; refine AR.free 7 (by kernel_rfl) rfl rfl rfl (Frees.fieldAddr _ _ 0 rfl rfl rfl) ?_; (try refine nz ?_); apply AR.cut [7, 3, 1, 0, 2, 4, 5, 6, 8, 9, 10, 11]; intro hJ_0; apply AR.cut [7, 3, 1, 0, 2, 4, 5, 6, 8, 9, 11]; intro hJ_1; apply AR.cut [7, 3, 1, 0, 2, 4, 5, 6, 8, 9, 10]; intro hJ_2; apply AR.cut [7, 3, 1, 0, 2, 4, 5, 6, 8, 9]; intro hJ_3; apply AR.cut [7, 3, 1, 0, 2, 4, 5, 6, 8, 11]; intro hJ_4; apply AR.cut [7, 3, 1, 0, 2, 4, 5, 6, 8]; intro hJ_5; apply AR.cut [7, 3, 1, 0, 2, 4, 8, 9, 10]; intro hJ_6; apply AR.cut [7, 3, 1, 0, 2, 8, 9, 10]; intro hJ_7; apply AR.cut [7, 3, 1, 0, 4, 8, 9, 10]; intro hJ_8; apply AR.cut [7, 3, 1, 0, 2, 4, 8, 9]; intro hJ_9; apply AR.cut [7, 3, 1, 0, 2, 4, 8]; intro hJ_10; apply AR.cut [7, 3, 1, 0, 2, 8, 9]; intro hJ_11; apply AR.cut [7, 3, 1, 0, 4, 8, 9]; intro hJ_12; apply AR.cut [7, 3, 1, 0, 2, 8]; intro hJ_13; apply AR.cut [7, 3, 1, 0, 4, 8]; intro hJ_14; apply AR.cut [7, 3, 1, 0, 2, 4]; intro hJ_15; (refine AR.step3M (i := 2) (j := 4) (m := 8) rfl (by kernel_rfl) rfl rfl rfl ?_ ?_ ?_ <;> intro g_ hgro_ hw_); refine zP (hcl) ?_; refine AOps.nil ?_; refine onlyN_n ?_; (refine AR.step2M (i := 4) (j := 8) rfl (by kernel_rfl) rfl rfl ?_ ?_ <;> intro g_ hgro_ hw_); refine AOps.bs1a3 rfl rfl rfl rfl rfl rfl rfl rfl rfl rfl ?_; refine nz ?_; refine AOps.nil ?_; refine onlyN_n ?_; (try refine nz ?_); refine AR.dd ?_; (conv => rhs; simp only [Nf.ddR, Nf.all, Nat.reduceBEq, reduceAdd, reduceSub]); exact AR.perm (by kernel_rfl) hJ_15; refine zb ?_; refine AOps.nil ?_; refine onlyN_n ?_; (try refine nz ?_); refine AR.dd ?_; (conv => rhs; simp only [Nf.ddR, Nf.all, Nat.reduceBEq, reduceAdd, reduceSub]); exact AR.perm (by kernel_rfl) hJ_13; refine AOps.bs1a3 rfl rfl rfl rfl rfl rfl rfl rfl rfl rfl ?_; refine nz ?_; refine AOps.nil ?_; refine onlyN_n ?_; (refine AR.step2M (i := 2) (j := 8) rfl (by kernel_rfl) rfl rfl ?_ ?_ <;> intro g_ hgro_ hw_); refine zP (hcl) ?_; refine AOps.nil ?_; refine onlyN_n ?_; (try refine nz ?_); refine AR.meet hJ_15 (by kernel_rfl) (fun g_ => weak rfl ?_ ?_ rfl); (iterate 9 refine ⟨.eq rfl rfl, ?_⟩); exact trivial; refine ⟨.row rfl, ?_⟩; refine ⟨.box _ rfl ?_, ?_⟩; refine ⟨.eq rfl rfl, ?_⟩; exact trivial; refine ⟨.box _ rfl ?_, ?_⟩; (iterate 3 refine ⟨.eq rfl rfl, ?_⟩); exact trivial; refine ⟨.box _ rfl ?_, ?_⟩; refine ⟨.eq rfl rfl, ?_⟩; (iterate 2 exact trivial); refine zb ?_; refine AOps.nil ?_; refine onlyN_n ?_; (try refine nz ?_); refine AR.dd ?_; (conv => rhs; simp only [Nf.ddR, Nf.all, Nat.reduceBEq, reduceAdd, reduceSub]); exact AR.perm (by kernel_rfl) hJ_14; refine zb ?_; refine AOps.nil ?_; refine onlyN_n ?_; (refine AR.step3M (i := 2) (j := 4) (m := 9) rfl (by kernel_rfl) rfl rfl rfl ?_ ?_ ?_ <;> intro g_ hgro_ hw_); refine zP (hcl) ?_; refine AOps.nil ?_; refine onlyN_n ?_; (try refine nz ?_); refine AR.meet hJ_13 (by kernel_rfl) (fun g_ => weak rfl ?_ ?_ rfl); (iterate 9 refine ⟨.eq rfl rfl, ?_⟩); exact trivial; refine ⟨.box _ rfl ?_, ?_⟩; refine ⟨.eq rfl rfl, ?_⟩; exact trivial; refine ⟨.box _ rfl ?_, ?_⟩; (iterate 3 refine ⟨.eq rfl rfl, ?_⟩); exact trivial; refine ⟨.box _ rfl ?_, ?_⟩; refine ⟨.eq rfl rfl, ?_⟩; (iterate 2 exact trivial); refine AOps.bs1a3 rfl rfl rfl rfl rfl rfl rfl rfl rfl rfl ?_; refine nz ?_; refine AOps.nil ?_; refine onlyN_n ?_; (try refine nz ?_); refine AR.meet hJ_14 (by kernel_rfl) (fun g_ => weak rfl ?_ ?_ rfl); (iterate 9 refine ⟨.eq rfl rfl, ?_⟩); exact trivial; refine ⟨.row rfl, ?_⟩; refine ⟨.box _ rfl ?_, ?_⟩; refine ⟨.eq rfl rfl, ?_⟩; exact trivial; refine ⟨.box _ rfl ?_, ?_⟩; (iterate 3 refine ⟨.eq rfl rfl, ?_⟩); exact trivial; refine ⟨.box _ rfl ?_, ?_⟩; refine ⟨.eq rfl rfl, ?_⟩; (iterate 2 exact trivial); refine zn ?_; refine AOps.nil ?_; refine onlyN_n ?_; (refine AR.step3M (i := 2) (j := 4) (m := 10) rfl (by kernel_rfl) rfl rfl rfl ?_ ?_ ?_ <;> intro g_ hgro_ hw_); refine zP (hcl) ?_; refine AOps.nil ?_; refine onlyN_n ?_; (try refine nz ?_); refine AR.dd ?_; (conv => rhs; simp only [Nf.ddR, Nf.all, Nat.reduceBEq, reduceAdd, reduceSub]); exact AR.perm (by kernel_rfl) hJ_11; refine AOps.bs1a3 rfl rfl rfl rfl rfl rfl rfl rfl rfl rfl ?_; refine nz ?_; refine AOps.nil ?_; refine onlyN_n ?_; (try refine nz ?_); refine AR.dd ?_; (conv => rhs; simp only [Nf.ddR, Nf.all, Nat.reduceBEq, reduceAdd, reduceSub]); exact AR.perm (by kernel_rfl) hJ_12; refine AOps.mul rfl rfl rfl rfl rfl (by omega) ?_; refine AOps.nil ?_; refine onlyN_n ?_; (refine AR.step2M (i := 2) (j := 4) rfl (by kernel_rfl) rfl rfl ?_ ?_ <;> intro g_ hgro_ hw_); refine zP (hcl) ?_; refine AOps.nil ?_; refine onlyN_n ?_; (try refine nz ?_); refine AR.dd ?_; (conv => rhs; simp only [Nf.ddR, Nf.all, Nat.reduceBEq, reduceAdd, reduceSub]); exact AR.perm (by kernel_rfl) hJ_7; refine AOps.bs1a3 rfl rfl rfl rfl rfl rfl rfl rfl rfl rfl ?_; refine nz ?_; refine AOps.nil ?_; refine onlyN_n ?_; (try refine nz ?_); refine AR.dd ?_; (conv => rhs; simp only [Nf.ddR, Nf.all, Nat.reduceBEq, reduceAdd, reduceSub]); exact AR.perm (by kernel_rfl) hJ_8; (refine AR.step2M (i := 5) (j := 8) rfl (by kernel_rfl) rfl rfl ?_ ?_ <;> intro g_ hgro_ hw_); (with_reducible apply AOps.append_clip); exact rfl; (first | exact .pv rfl | exact .own rfl | exact .nil rfl); (iterate 8 exact rfl); (first | omega | (simp only [List.length_map, List.length_append, List.length_cons, List.length_nil, List.length_drop, List.length_take, List.length_set, chunk_len]; omega)); (first | omega | (simp only [List.length_map, List.length_append, List.length_cons, List.length_nil, List.length_drop, List.length_take, List.length_set, chunk_len]; omega)); (first | omega | (simp only [List.length_map, List.length_append, List.length_cons, List.length_nil, List.length_drop, List.length_take, List.length_set, chunk_len]; omega)); refine nz ?_; refine AOps.nil ?_; refine onlyN_n ?_; refine AR.free 6 (by kernel_rfl) rfl rfl rfl (Frees.build 31 [0] rfl rfl rfl rfl rfl rfl rfl rfl) ?_; (try refine nz ?_); (refine AR.step2L (i := 8) (j := 11) rfl (by kernel_rfl) rfl rfl (by kernel_rfl) ?_ ?_ <;> intro g_ hgro_ hwt2_); refine zb ?_; refine AOps.nil ?_; refine onlyN_n ?_; (try refine nz ?_); refine AR.dd ?_; (conv => rhs; simp only [Nf.ddR, Nf.all, Nat.reduceBEq, reduceAdd, reduceSub]); exact AR.perm (by kernel_rfl) hJ_5; refine zB ?_; refine nz ?_; refine AOps.nil ?_; refine onlyN_n ?_; refine AR.step1LM (i := 8) rfl (by kernel_rfl) rfl (by kernel_rfl) ?_; intro g_ hgro_ hwt2_; refine zb ?_; refine AOps.nil ?_; refine onlyN_n ?_; (try refine nz ?_); refine AR.dd ?_; (conv => rhs; simp only [Nf.ddR, Nf.all, Nat.reduceBEq, reduceAdd, reduceSub]); exact AR.perm (by kernel_rfl) hJ_4; refine zb ?_; refine AOps.nil ?_; refine onlyN_n ?_; (try refine nz ?_); refine AR.dd ?_; (conv => rhs; simp only [Nf.ddR, Nf.all, Nat.reduceBEq, reduceAdd, reduceSub]); exact AR.perm (by kernel_rfl) hJ_10; (refine AR.step2M (i := 2) (j := 9) rfl (by kernel_rfl) rfl rfl ?_ ?_ <;> intro g_ hgro_ hw_); refine zP (hcl) ?_; refine AOps.nil ?_; refine onlyN_n ?_; (try refine nz ?_); refine AR.meet hJ_10 (by kernel_rfl) (fun g_ => weak rfl ?_ ?_ rfl); (iterate 10 refine ⟨.eq rfl rfl, ?_⟩); exact trivial; refine ⟨.row rfl, ?_⟩; refine ⟨.box _ rfl ?_, ?_⟩; refine ⟨.eq rfl rfl, ?_⟩; exact trivial; refine ⟨.box _ rfl ?_, ?_⟩; (iterate 3 refine ⟨.eq rfl rfl, ?_⟩); exact trivial; refine ⟨.box _ rfl ?_, ?_⟩; refine ⟨.eq rfl rfl, ?_⟩; (iterate 2 exact trivial); refine zn ?_; refine AOps.nil ?_; refine onlyN_n ?_; (try refine nz ?_); refine AR.meet hJ_12 (by kernel_rfl) (fun g_ => weak rfl ?_ ?_ rfl); (iterate 10 refine ⟨.eq rfl rfl, ?_⟩); exact trivial; refine ⟨.row rfl, ?_⟩; refine ⟨.box _ rfl ?_, ?_⟩; refine ⟨.eq rfl rfl, ?_⟩; exact trivial; refine ⟨.box _ rfl ?_, ?_⟩; (iterate 3 refine ⟨.eq rfl rfl, ?_⟩); exact trivial; refine ⟨.box _ rfl ?_, ?_⟩; refine ⟨.eq rfl rfl, ?_⟩; (iterate 2 exact trivial); (refine AR.step2M (i := 4) (j := 9) rfl (by kernel_rfl) rfl rfl ?_ ?_ <;> intro g_ hgro_ hw_); refine AOps.bs1a3 rfl rfl rfl rfl rfl rfl rfl rfl rfl rfl ?_; refine nz ?_; refine AOps.nil ?_; refine onlyN_n ?_; (try refine nz ?_); refine AR.meet hJ_10 (by kernel_rfl) (fun g_ => weak rfl ?_ ?_ rfl); (iterate 10 refine ⟨.eq rfl rfl, ?_⟩); exact trivial; refine ⟨.row rfl, ?_⟩; refine ⟨.box _ rfl ?_, ?_⟩; refine ⟨.eq rfl rfl, ?_⟩; exact trivial; refine ⟨.box _ rfl ?_, ?_⟩; (iterate 3 refine ⟨.eq rfl rfl, ?_⟩); exact trivial; refine ⟨.box _ rfl ?_, ?_⟩; refine ⟨.eq rfl rfl, ?_⟩; (iterate 2 exact trivial); refine zn ?_; refine AOps.nil ?_; refine onlyN_n ?_; (try refine nz ?_); refine AR.meet hJ_11 (by kernel_rfl) (fun g_ => weak rfl ?_ ?_ rfl); (iterate 10 refine ⟨.eq rfl rfl, ?_⟩); exact trivial; refine ⟨.box _ rfl ?_, ?_⟩; refine ⟨.eq rfl rfl, ?_⟩; exact trivial; refine ⟨.box _ rfl ?_, ?_⟩; (iterate 3 refine ⟨.eq rfl rfl, ?_⟩); exact trivial; refine ⟨.box _ rfl ?_, ?_⟩; refine ⟨.eq rfl rfl, ?_⟩; (iterate 2 exact trivial); (refine AR.step2M (i := 2) (j := 10) rfl (by kernel_rfl) rfl rfl ?_ ?_ <;> intro g_ hgro_ hw_); refine zP (hcl) ?_; refine AOps.nil ?_; refine onlyN_n ?_; (try refine nz ?_); refine AR.dd ?_; (conv => rhs; simp only [Nf.ddR, Nf.all, Nat.reduceBEq, reduceAdd, reduceSub]); exact AR.perm (by kernel_rfl) hJ_9; refine AOps.mul rfl rfl rfl rfl rfl (by omega) ?_; refine AOps.nil ?_; refine onlyN_n ?_; (try refine nz ?_); refine AR.meet hJ_8 (by kernel_rfl) (fun g_ => weak rfl ?_ ?_ rfl); (iterate 11 refine ⟨.eq rfl rfl, ?_⟩); exact trivial; refine ⟨.row rfl, ?_⟩; refine ⟨.box _ rfl ?_, ?_⟩; refine ⟨.eq rfl rfl, ?_⟩; exact trivial; refine ⟨.box _ rfl ?_, ?_⟩; (iterate 3 refine ⟨.eq rfl rfl, ?_⟩); exact trivial; refine ⟨.box _ rfl ?_, ?_⟩; refine ⟨.eq rfl rfl, ?_⟩; (iterate 2 exact trivial); (refine AR.step2M (i := 4) (j := 10) rfl (by kernel_rfl) rfl rfl ?_ ?_ <;> intro g_ hgro_ hw_); refine AOps.bs1a3 rfl rfl rfl rfl rfl rfl rfl rfl rfl rfl ?_; refine nz ?_; refine AOps.nil ?_; refine onlyN_n ?_; (try refine nz ?_); refine AR.meet hJ_9 (by kernel_rfl) (fun g_ => weak rfl ?_ ?_ rfl); (iterate 11 refine ⟨.eq rfl rfl, ?_⟩); exact trivial; refine ⟨.row rfl, ?_⟩; refine ⟨.box _ rfl ?_, ?_⟩; refine ⟨.eq rfl rfl, ?_⟩; exact trivial; refine ⟨.box _ rfl ?_, ?_⟩; (iterate 3 refine ⟨.eq rfl rfl, ?_⟩); exact trivial; refine ⟨.box _ rfl ?_, ?_⟩; refine ⟨.eq rfl rfl, ?_⟩; (iterate 2 exact trivial); refine AOps.mul rfl rfl rfl rfl rfl (by omega) ?_; refine AOps.nil ?_; refine onlyN_n ?_; (try refine nz ?_); refine AR.meet hJ_7 (by kernel_rfl) (fun g_ => weak rfl ?_ ?_ rfl); (iterate 11 refine ⟨.eq rfl rfl, ?_⟩); exact trivial; refine ⟨.box _ rfl ?_, ?_⟩; refine ⟨.eq rfl rfl, ?_⟩; exact trivial; refine ⟨.box _ rfl ?_, ?_⟩; (iterate 3 refine ⟨.eq rfl rfl, ?_⟩); exact trivial; refine ⟨.box _ rfl ?_, ?_⟩; refine ⟨.eq rfl rfl, ?_⟩; (iterate 2 exact trivial); (refine AR.step2M (i := 5) (j := 9) rfl (by kernel_rfl) rfl rfl ?_ ?_ <;> intro g_ hgro_ hw_); (with_reducible apply AOps.append_clip); exact rfl; (first | exact .pv rfl | exact .own rfl | exact .nil rfl); (iterate 8 exact rfl); (first | omega | (simp only [List.length_map, List.length_append, List.length_cons, List.length_nil, List.length_drop, List.length_take, List.length_set, chunk_len]; omega)); (first | omega | (simp only [List.length_map, List.length_append, List.length_cons, List.length_nil, List.length_drop, List.length_take, List.length_set, chunk_len]; omega)); (first | omega | (simp only [List.length_map, List.length_append, List.length_cons, List.length_nil, List.length_drop, List.length_take, List.length_set, chunk_len]; omega)); refine nz ?_; refine AOps.nil ?_; refine onlyN_n ?_; refine AR.free 6 (by kernel_rfl) rfl rfl rfl (Frees.build 31 [0] rfl rfl rfl rfl rfl rfl rfl rfl) ?_; (try refine nz ?_); (try refine nz ?_); refine AR.meet hJ_5 (by kernel_rfl) (fun g_ => weak rfl ?_ ?_ rfl); (iterate 12 refine ⟨.eq rfl rfl, ?_⟩); exact trivial; (iterate 2 refine ⟨.row rfl, ?_⟩); refine ⟨.box _ rfl ?_, ?_⟩; refine ⟨.eq rfl rfl, ?_⟩; exact trivial; refine ⟨.box _ rfl ?_, ?_⟩; (iterate 3 refine ⟨.eq rfl rfl, ?_⟩); exact trivial; refine ⟨.box _ rfl ?_, ?_⟩; refine ⟨.eq rfl rfl, ?_⟩; (iterate 2 exact trivial); refine zn ?_; refine AOps.nil ?_; refine onlyN_n ?_; (try refine nz ?_); refine AR.meet hJ_9 (by kernel_rfl) (fun g_ => weak rfl ?_ ?_ rfl); (iterate 11 refine ⟨.eq rfl rfl, ?_⟩); exact trivial; refine ⟨.row rfl, ?_⟩; refine ⟨.box _ rfl ?_, ?_⟩; refine ⟨.eq rfl rfl, ?_⟩; exact trivial; refine ⟨.box _ rfl ?_, ?_⟩; (iterate 3 refine ⟨.eq rfl rfl, ?_⟩); exact trivial; refine ⟨.box _ rfl ?_, ?_⟩; refine ⟨.eq rfl rfl, ?_⟩; (iterate 2 exact trivial); (refine AR.step2M (i := 5) (j := 10) rfl (by kernel_rfl) rfl rfl ?_ ?_ <;> intro g_ hgro_ hw_); (with_reducible apply AOps.append_clip); exact rfl; (first | exact .pv rfl | exact .own rfl | exact .nil rfl); (iterate 8 exact rfl); (first | omega | (simp only [List.length_map, List.length_append, List.length_cons, List.length_nil, List.length_drop, List.length_take, List.length_set, chunk_len]; omega)); (first | omega | (simp only [List.length_map, List.length_append, List.length_cons, List.length_nil, List.length_drop, List.length_take, List.length_set, chunk_len]; omega)); (first | omega | (simp only [List.length_map, List.length_append, List.length_cons, List.length_nil, List.length_drop, List.length_take, List.length_set, chunk_len]; omega)); refine nz ?_; refine AOps.nil ?_; refine onlyN_n ?_; refine AR.free 6 (by kernel_rfl) rfl rfl rfl (Frees.build 31 [0] rfl rfl rfl rfl rfl rfl rfl rfl) ?_; (try refine nz ?_); (try refine nz ?_); refine AR.dd ?_; (conv => rhs; simp only [Nf.ddR, Nf.all, Nat.reduceBEq, reduceAdd, reduceSub]); exact AR.perm (by kernel_rfl) hJ_3; refine AOps.mul rfl rfl rfl rfl rfl (by omega) ?_; refine AOps.nil ?_; refine onlyN_n ?_; (try refine nz ?_); refine AR.dd ?_; (conv => rhs; simp only [Nf.ddR, Nf.all, Nat.reduceBEq, reduceAdd, reduceSub]); exact AR.perm (by kernel_rfl) hJ_6; refine AR.step1M (i := 2) rfl (by kernel_rfl) rfl ?_; intro g_ hgro_ hw_; refine zP (hcl) ?_; refine AOps.nil ?_; refine onlyN_n ?_; (try refine nz ?_); refine AR.meet hJ_6 (by kernel_rfl) (fun g_ => weak rfl ?_ ?_ rfl); (iterate 12 refine ⟨.eq rfl rfl, ?_⟩); exact trivial; refine ⟨.row rfl, ?_⟩; refine ⟨.box _ rfl ?_, ?_⟩; refine ⟨.eq rfl rfl, ?_⟩; exact trivial; refine ⟨.box _ rfl ?_, ?_⟩; (iterate 3 refine ⟨.eq rfl rfl, ?_⟩); exact trivial; refine ⟨.box _ rfl ?_, ?_⟩; refine ⟨.eq rfl rfl, ?_⟩; (iterate 2 exact trivial); refine AR.step1M (i := 4) rfl (by kernel_rfl) rfl ?_; intro g_ hgro_ hw_; refine AOps.bs1a3 rfl rfl rfl rfl rfl rfl rfl rfl rfl rfl ?_; refine nz ?_; refine AOps.nil ?_; refine onlyN_n ?_; (try refine nz ?_); refine AR.meet hJ_6 (by kernel_rfl) (fun g_ => weak rfl ?_ ?_ rfl); (iterate 12 refine ⟨.eq rfl rfl, ?_⟩); exact trivial; refine ⟨.row rfl, ?_⟩; refine ⟨.box _ rfl ?_, ?_⟩; refine ⟨.eq rfl rfl, ?_⟩; exact trivial; refine ⟨.box _ rfl ?_, ?_⟩; (iterate 3 refine ⟨.eq rfl rfl, ?_⟩); exact trivial; refine ⟨.box _ rfl ?_, ?_⟩; refine ⟨.eq rfl rfl, ?_⟩; (iterate 2 exact trivial); refine AR.step1M (i := 5) rfl (by kernel_rfl) rfl ?_; intro g_ hgro_ hw_; (with_reducible apply AOps.append_clip); exact rfl; (first | exact .pv rfl | exact .own rfl | exact .nil rfl); (iterate 8 exact rfl); (first | omega | (simp only [List.length_map, List.length_append, List.length_cons, List.length_nil, List.length_drop, List.length_take, List.length_set, chunk_len]; omega)); (first | omega | (simp only [List.length_map, List.length_append, List.length_cons, List.length_nil, List.length_drop, List.length_take, List.length_set, chunk_len]; omega)); (first | omega | (simp only [List.length_map, List.length_append, List.length_cons, List.length_nil, List.length_drop, List.length_take, List.length_set, chunk_len]; omega)); refine nz ?_; refine AOps.nil ?_; refine onlyN_n ?_; refine AR.free 6 (by kernel_rfl) rfl rfl rfl (Frees.build 31 [0] rfl rfl rfl rfl rfl rfl rfl rfl) ?_; (try refine nz ?_); (try refine nz ?_); refine AR.dd ?_; (conv => rhs; simp only [Nf.ddR, Nf.all, Nat.reduceBEq, reduceAdd, reduceSub]); exact AR.perm (by kernel_rfl) hJ_2; (refine AR.step2L (i := 9) (j := 11) rfl (by kernel_rfl) rfl rfl (by kernel_rfl) ?_ ?_ <;> intro g_ hgro_ hwt2_); refine zn ?_; refine AOps.nil ?_; refine onlyN_n ?_; (try refine nz ?_); refine AR.meet hJ_3 (by kernel_rfl) (fun g_ => weak rfl ?_ ?_ rfl); (iterate 13 refine ⟨.eq rfl rfl, ?_⟩); exact trivial; (iterate 2 refine ⟨.row rfl, ?_⟩); refine ⟨.box _ rfl ?_, ?_⟩; refine ⟨.eq rfl rfl, ?_⟩; exact trivial; refine ⟨.box _ rfl ?_, ?_⟩; (iterate 3 refine ⟨.eq rfl rfl, ?_⟩); exact trivial; refine ⟨.box _ rfl ?_, ?_⟩; refine ⟨.eq rfl rfl, ?_⟩; (iterate 2 exact trivial); refine zB ?_; refine nz ?_; refine AOps.nil ?_; refine onlyN_n ?_; (try refine nz ?_); refine AR.meet hJ_4 (by kernel_rfl) (fun g_ => weak rfl ?_ ?_ rfl); (iterate 12 refine ⟨.eq rfl rfl, ?_⟩); exact trivial; refine ⟨.box _ rfl ?_, ?_⟩; refine ⟨.eq rfl rfl, ?_⟩; exact trivial; (iterate 2 refine ⟨.row rfl, ?_⟩); refine ⟨.box _ rfl ?_, ?_⟩; (iterate 3 refine ⟨.eq rfl rfl, ?_⟩); exact trivial; refine ⟨.box _ rfl ?_, ?_⟩; refine ⟨.eq rfl rfl, ?_⟩; (iterate 2 exact trivial); refine AR.step1LM (i := 9) rfl (by kernel_rfl) rfl (by kernel_rfl) ?_; intro g_ hgro_ hwt2_; refine zn ?_; refine AOps.nil ?_; refine onlyN_n ?_; (try refine nz ?_); refine AR.dd ?_; (conv => rhs; simp only [Nf.ddR, Nf.all, Nat.reduceBEq, reduceAdd, reduceSub]); exact AR.perm (by kernel_rfl) hJ_1; (refine AR.step2L (i := 10) (j := 11) rfl (by kernel_rfl) rfl rfl (by kernel_rfl) ?_ ?_ <;> intro g_ hgro_ hwt2_); refine AOps.mul rfl rfl rfl rfl rfl (by omega) ?_; refine AOps.nil ?_; refine onlyN_n ?_; (try refine nz ?_); refine AR.meet hJ_2 (by kernel_rfl) (fun g_ => weak rfl ?_ ?_ rfl); (iterate 14 refine ⟨.eq rfl rfl, ?_⟩); exact trivial; (iterate 2 refine ⟨.row rfl, ?_⟩); refine ⟨.box _ rfl ?_, ?_⟩; refine ⟨.eq rfl rfl, ?_⟩; exact trivial; refine ⟨.box _ rfl ?_, ?_⟩; (iterate 3 refine ⟨.eq rfl rfl, ?_⟩); exact trivial; refine ⟨.box _ rfl ?_, ?_⟩; refine ⟨.eq rfl rfl, ?_⟩; (iterate 2 exact trivial); refine zB ?_; refine nz ?_; refine AOps.nil ?_; refine onlyN_n ?_; (try refine nz ?_); refine AR.meet hJ_1 (by kernel_rfl) (fun g_ => weak rfl ?_ ?_ rfl); (iterate 13 refine ⟨.eq rfl rfl, ?_⟩); exact trivial; refine ⟨.box _ rfl ?_, ?_⟩; refine ⟨.eq rfl rfl, ?_⟩; exact trivial; (iterate 2 refine ⟨.row rfl, ?_⟩); refine ⟨.box _ rfl ?_, ?_⟩; (iterate 3 refine ⟨.eq rfl rfl, ?_⟩); exact trivial; refine ⟨.box _ rfl ?_, ?_⟩; refine ⟨.eq rfl rfl, ?_⟩; (iterate 2 exact trivial); refine AR.step1LM (i := 11) rfl (by kernel_rfl) rfl (by kernel_rfl) ?_; intro g_ hgro_ hwt2_; refine zB ?_; refine nz ?_; refine AOps.nil ?_; refine onlyN_n ?_; (try refine nz ?_); refine AR.dd ?_; (conv => rhs; simp only [Nf.ddR, Nf.all, Nat.reduceBEq, reduceAdd, reduceSub]); exact AR.perm (by kernel_rfl) hJ_0; refine AR.step1LM (i := 10) rfl (by kernel_rfl) rfl (by kernel_rfl) ?_; intro g_ hgro_ hwt2_; refine AOps.mul rfl rfl rfl rfl rfl (by omega) ?_; refine AOps.nil ?_; refine onlyN_n ?_; (try refine nz ?_); refine AR.meet hJ_0 (by kernel_rfl) (fun g_ => weak rfl ?_ ?_ rfl); (iterate 14 refine ⟨.eq rfl rfl, ?_⟩); exact trivial; refine ⟨.box _ rfl ?_, ?_⟩; refine ⟨.eq rfl rfl, ?_⟩; exact trivial; (iterate 2 refine ⟨.row rfl, ?_⟩); refine ⟨.box _ rfl ?_, ?_⟩; (iterate 3 refine ⟨.eq rfl rfl, ?_⟩); exact trivial; refine ⟨.box _ rfl ?_, ?_⟩; refine ⟨.eq rfl rfl, ?_⟩; (iterate 2 exact trivial); refine AR.step1LM (i := 12) rfl (by kernel_rfl) rfl (by kernel_rfl) ?_; intro g_ hgro_ hwt2_; refine za ?_; refine AOps.nil ?_; refine onlyN_n ?_; refine AR.doneM (by assumption) (by kernel_rfl) ?_; refine thenD_n ?_; refine AW.ret ?_)
      (apply ends_ret; (exact Res.two (.cell rfl rfl rfl rfl) (.tmp rfl rfl)); (refine Le.tupL ?_; refine LeL.cons ?_ ?_; refine Le.aggL ?_; refine LeL.cons ?_ ?_; refine Le.ownE ?_; (first | rfl | (rw [List.map_append]; rfl)); exact LeL.nil; refine LeL.cons ?_ ?_; refine Le.litI ?_; (first | rfl | (rw [List.map_append]; rfl)); exact LeL.nil))
end Go.Ab
/- Chapter 24: the program's circuits: negation, inputs, conjunctions, walked. -/
namespace Go.Ab
open Go Go.Proofs
set_option maxRecDepth 20000
set_option maxHeartbeats 4000000
attribute [local irreducible] AW AOps thenD inBlockD AR iterEnds roundEndsN inlEnds noGotoD findG EndsX
theorem pNot_fn (r : Int) (h : -1000000 ≤ r ∧ r ≤ 1000000) : Fn Try.prog 57 [litI r] (litI (notR r)) := by
  unfold notR
  by_cases h0 : r < 0
  · rw [if_pos h0]
    refine Fn.enter (n := 7) Try.func57 rfl rfl rfl rfl rfl (by decide) fun g hro_ hwt_ => ?_; (try refine nz ?_)
    (refine zq ?_; refine za ?_; refine zd ?_; refine zo ?_; refine zq ?_; refine nz ?_; refine zm ?_; refine zs ?_; refine zd ?_; refine zc ?_; refine zq ?_; refine nz ?_; refine za ?_; refine zd ?_; refine AW.ret ?_; refine thenD_ret ?_)
    (apply ends_ret; (exact Res.one (.tmp rfl rfl)); (refine Le.litI ?_; (rfl)))
  · rw [if_neg h0]
    show Fn Try.prog 57 [litI r] (litI (bit1 r))
    refine Fn.enter (n := 7) Try.func57 rfl rfl rfl rfl rfl (by decide) fun g hro_ hwt_ => ?_; (try refine nz ?_)
    (refine zq ?_; refine za ?_; refine zd ?_; refine zo ?_; refine zq ?_; refine nz ?_; refine zm ?_; refine zs ?_; refine zd ?_; refine zk ?_; refine AW.skip ?_; refine thenD_n ?_; refine zq ?_; refine nz ?_; refine zm ?_; refine AOps.xor1 rfl rfl rfl rfl rfl (by omega) ?_; refine za ?_; refine zd ?_; refine AW.ret ?_)
    (apply ends_ret; (exact Res.one (.tmp rfl rfl)); (refine Le.litI ?_; (rfl)))
theorem pInput_fn (gs : List GateM) (v : Int) (hl : gs.length ≤ 1000000) (hne : 0 < gs.length) : Fn Try.prog 80 [crc gs, litI v] (.tup [crc (inputG gs v).1, litI (inputG gs v).2]) := by
  have hs := pShare_fn gs ⟨1, v, 0⟩ hl hne
  unfold inputG
  refine Fn.enter (n := 19) Try.func80 rfl rfl rfl rfl rfl (by decide) fun g hro_ hwt_ => ?_; (try refine nz ?_)
  by_cases h0 : v < 1 ∨ 20000 < v
  · rw [if_pos h0]
    (refine zq ?_; refine AOps.box rfl rfl rfl rfl ?_; refine nz ?_; refine AOps.allocN' rfl rfl rfl rfl ?_; refine nz ?_; refine za ?_; refine zd ?_; refine zo ?_; refine zq ?_; refine nz ?_; refine zm ?_; refine zs ?_; refine zm ?_; (focus ((with_reducible apply AOps.guardF); (iterate 6 exact rfl); all_goals intro hc_)); refine zm ?_; refine zy ?_; refine AOps.gtr rfl rfl rfl rfl rfl ?_; refine zF ?_; refine zd ?_; refine zc ?_; refine zq ?_; refine nz ?_; refine zL ?_; refine nz ?_; refine zB ?_; refine nz ?_; refine za ?_; refine zd ?_; refine AW.ret ?_; refine thenD_ret ?_; (all_goals skip); rotate_left; refine AOps.guardFn rfl rfl rfl rfl rfl rfl (by with_reducible assumption) ?_; refine zT ?_; refine zd ?_; refine AW.cond_lt rfl rfl ?_; refine zq ?_; refine nz ?_; refine zL ?_; refine nz ?_; refine zB ?_; refine nz ?_; refine za ?_; refine zd ?_; refine AW.ret ?_; refine thenD_ret ?_; (all_goals skip); rotate_left)
    all_goals (apply ends_ret; (exact Res.two (.cell rfl rfl rfl rfl) (.tmp rfl rfl)); (refine Le.tupL ?_; refine LeL.cons ?_ ?_; refine Le.aggL ?_; refine LeL.cons ?_ ?_; (with_reducible exact Le.pv _); exact LeL.nil; refine LeL.cons ?_ ?_; refine Le.litI ?_; (rfl); exact LeL.nil))
  · rw [if_neg h0]
    have h1 : ¬ v < 1 := by omega
    have h2 : ¬ 20000 < v := by omega
    (refine zq ?_; refine AOps.box rfl rfl rfl rfl ?_; refine nz ?_; refine AOps.allocN' rfl rfl rfl rfl ?_; refine nz ?_; refine za ?_; refine zd ?_; refine zo ?_; refine zq ?_; refine nz ?_; refine zm ?_; refine zs ?_; refine zm ?_; refine zy ?_; refine zm ?_; refine zy ?_; refine AOps.gtr rfl rfl rfl rfl rfl ?_; refine zF ?_; refine zd ?_; refine zk ?_; refine AW.skip ?_; refine thenD_n ?_; refine zq ?_; refine nz ?_; refine zL ?_; refine nz ?_; refine zm ?_; refine AOps.buildN 82 [0, 1] rfl rfl rfl rfl rfl rfl rfl rfl rfl ?_; refine nz ?_; refine zP (hs) ?_; (iterate 2 refine AOps.extract rfl rfl rfl rfl ?_); refine zB ?_; refine nz ?_; refine za ?_; refine zd ?_; refine AW.ret ?_)
    (apply ends_ret; (exact Res.two (.cell rfl rfl rfl rfl) (.tmp rfl rfl)); (refine Le.tupL ?_; refine LeL.cons ?_ ?_; refine Le.aggL ?_; refine LeL.cons ?_ ?_; (with_reducible exact Le.pv _); exact LeL.nil; refine LeL.cons ?_ ?_; refine Le.litI ?_; (rfl); exact LeL.nil))
theorem andV_fn (gs : List GateM) (r : Int) (hl : gs.length ≤ 1000000) : Fn Try.prog 101 [litI r, .rptr [.slice 3 (gs.map encG)]] (litB (decide (0 ≤ r ∧ r < 2 * (gs.length : Int)))) := by
  by_cases h : 0 ≤ r ∧ r < 2 * (gs.length : Int)
  · rw [decide_eq_true h]
    obtain ⟨h1, h2⟩ := h
    have e2 := decide_eq_true h2
    refine Fn.enter (n := 14) Try.func101 rfl rfl rfl rfl rfl (by decide) fun g hro_ hwt_ => ?_; (try refine nz ?_)
    (refine zq ?_; refine za ?_; refine zd ?_; refine zq ?_; refine nz ?_; refine zm ?_; refine AOps.geq rfl rfl rfl rfl rfl ?_; refine zm ?_; refine zt ?_; refine zm ?_; refine zt ?_; refine AOps.fieldAddr_rN 31 0 0 1 rfl rfl rfl rfl ?_; refine nz ?_; refine zt ?_; refine zr ?_; refine zt ?_; refine zn ?_; refine zt ?_; refine AOps.mul rfl rfl rfl rfl rfl (by omega) ?_; refine zt ?_; refine zs ?_; refine zT ?_; refine za ?_; refine zd ?_; refine AW.ret ?_)
    (apply ends_ret; (exact Res.one (.tmp rfl rfl)); (refine Le.litB ?_; (first | rfl | (rw [e2]))))
  · rw [decide_eq_false h]
    refine Fn.enter (n := 14) Try.func101 rfl rfl rfl rfl rfl (by decide) fun g hro_ hwt_ => ?_; (try refine nz ?_)
    by_cases h1 : 0 ≤ r
    · have h2 : ¬ r < 2 * (gs.length : Int) := fun h2 => h ⟨h1, h2⟩
      have e2 := decide_eq_false h2
      (refine zq ?_; refine za ?_; refine zd ?_; refine zq ?_; refine nz ?_; refine zm ?_; refine AOps.geq rfl rfl rfl rfl rfl ?_; refine zm ?_; refine zt ?_; refine zm ?_; refine zt ?_; refine AOps.fieldAddr_rN 31 0 0 1 rfl rfl rfl rfl ?_; refine nz ?_; refine zt ?_; refine zr ?_; refine zt ?_; refine zn ?_; refine zt ?_; refine AOps.mul rfl rfl rfl rfl rfl (by omega) ?_; refine zt ?_; refine zs ?_; refine zT ?_; refine za ?_; refine zd ?_; refine AW.ret ?_)
      (apply ends_ret; (exact Res.one (.tmp rfl rfl)); (refine Le.litB ?_; (first | rfl | (rw [e2]))))
    · have e1 := decide_eq_false h1
      (refine zq ?_; refine za ?_; refine zd ?_; refine zq ?_; refine nz ?_; refine zm ?_; refine AOps.geq rfl rfl rfl rfl rfl ?_; refine zm ?_; (iterate 6 refine AOps.guardTn rfl rfl rfl rfl rfl rfl (by with_reducible assumption) ?_); refine zF ?_; refine za ?_; refine zd ?_; refine AW.ret ?_)
      (apply ends_ret; (exact Res.one (.tmp rfl rfl)); (refine Le.litB ?_; (first | rfl | (rw [e1]))))
theorem notR_inv {a b : Int} (ha : 0 ≤ a) (hb : 0 ≤ b) : b = notR a ↔ a = notR b := by
  have e1 : notR a = if a % 2 = 0 then a + 1 else a - 1 := if_neg (by omega)
  have e2 : notR b = if b % 2 = 0 then b + 1 else b - 1 := if_neg (by omega)
  rw [e1, e2]
  by_cases p : a % 2 = 0
  · rw [if_pos p]
    by_cases q : b % 2 = 0
    · rw [if_pos q]; omega
    · rw [if_neg q]; omega
  · rw [if_neg p]
    by_cases q : b % 2 = 0
    · rw [if_pos q]; omega
    · rw [if_neg q]; omega
theorem pAnd_fn (gs : List GateM) (a b : Int) (hl : gs.length ≤ 400000) (hne : 0 < gs.length) (ha : -1000000 ≤ a ∧ a ≤ 1000000) (hb : -1000000 ≤ b ∧ b ≤ 1000000) : Fn Try.prog 66 [crc gs, litI a, litI b] (.tup [crc (andG gs a b).1, litI (andG gs a b).2]) := by
  have hs := pShare_fn gs ⟨2, min a b, max a b⟩ (by omega) hne
  have hn := pNot_fn b hb
  have hva := andV_fn gs a (by omega)
  have hvb := andV_fn gs b (by omega)
  unfold andG
  by_cases h0 : a < 0 ∨ b < 0 ∨ 2 * (gs.length : Int) ≤ a ∨ 2 * (gs.length : Int) ≤ b
  · rw [if_pos h0]
    by_cases hx : 0 ≤ a ∧ a < 2 * (gs.length : Int)
    · have hy : ¬ (0 ≤ b ∧ b < 2 * (gs.length : Int)) := by omega
      rw [decide_eq_true hx] at hva
      rw [decide_eq_false hy] at hvb
      refine Fn.enter (n := 62) Try.func66 rfl rfl rfl rfl rfl (by decide) fun g hro_ hwt_ => ?_; (try refine nz ?_)
      (refine zq ?_; refine AOps.box rfl rfl rfl rfl ?_; refine nz ?_; refine AOps.allocN' rfl rfl rfl rfl ?_; refine nz ?_; refine za ?_; refine zd ?_; refine zq ?_; refine nz ?_; refine AOps.makeFunc_c rfl rfl rfl ?_; refine AOps.assign rfl rfl rfl ?_; refine nz ?_; refine zd ?_; refine zo ?_; refine AW.block ?_; refine zq ?_; refine AOps.move_clo rfl rfl rfl ?_; refine zm ?_; refine zC (hva) ?_; refine AOps.not rfl rfl rfl ?_; refine zm ?_; refine zl ?_; refine AOps.move_clo rfl rfl rfl ?_; refine zl ?_; refine zm ?_; refine zl ?_; refine zC (hvb) ?_; refine zl ?_; refine AOps.not rfl rfl rfl ?_; refine AOps.pick_lf rfl rfl rfl rfl rfl rfl ?_; refine za ?_; refine zd ?_; refine AW.cond_lt rfl rfl ?_; refine zq ?_; refine nz ?_; refine zL ?_; refine nz ?_; refine zB ?_; refine nz ?_; refine za ?_; refine zd ?_; refine AW.ret ?_; refine inBlockD_ret ?_; refine thenD_ret ?_)
      (apply ends_ret; (exact Res.two (.cell rfl rfl rfl rfl) (.tmp rfl rfl)); (refine Le.tupL ?_; refine LeL.cons ?_ ?_; refine Le.aggL ?_; refine LeL.cons ?_ ?_; (with_reducible exact Le.pv _); exact LeL.nil; refine LeL.cons ?_ ?_; refine Le.litI ?_; (rfl); exact LeL.nil))
    · rw [decide_eq_false hx] at hva
      refine Fn.enter (n := 62) Try.func66 rfl rfl rfl rfl rfl (by decide) fun g hro_ hwt_ => ?_; (try refine nz ?_)
      (refine zq ?_; refine AOps.box rfl rfl rfl rfl ?_; refine nz ?_; refine AOps.allocN' rfl rfl rfl rfl ?_; refine nz ?_; refine za ?_; refine zd ?_; refine zq ?_; refine nz ?_; refine AOps.makeFunc_c rfl rfl rfl ?_; refine AOps.assign rfl rfl rfl ?_; refine nz ?_; refine zd ?_; refine zo ?_; refine AW.block ?_; refine zq ?_; refine AOps.move_clo rfl rfl rfl ?_; refine zm ?_; refine zC (hva) ?_; refine AOps.not rfl rfl rfl ?_; refine zm ?_; (iterate 4 refine AOps.guard_lf rfl rfl rfl rfl rfl rfl rfl ?_); refine AOps.pick_lt rfl rfl rfl rfl rfl rfl ?_; refine za ?_; refine zd ?_; refine AW.cond_lt rfl rfl ?_; refine zq ?_; refine nz ?_; refine zL ?_; refine nz ?_; refine zB ?_; refine nz ?_; refine za ?_; refine zd ?_; refine AW.ret ?_; refine inBlockD_ret ?_; refine thenD_ret ?_)
      (apply ends_ret; (exact Res.two (.cell rfl rfl rfl rfl) (.tmp rfl rfl)); (refine Le.tupL ?_; refine LeL.cons ?_ ?_; refine Le.aggL ?_; refine LeL.cons ?_ ?_; (with_reducible exact Le.pv _); exact LeL.nil; refine LeL.cons ?_ ?_; refine Le.litI ?_; (rfl); exact LeL.nil))
  · rw [if_neg h0]
    have hx : 0 ≤ a ∧ a < 2 * (gs.length : Int) := by omega
    have hy : 0 ≤ b ∧ b < 2 * (gs.length : Int) := by omega
    rw [decide_eq_true hx] at hva
    rw [decide_eq_true hy] at hvb
    have hinv := notR_inv (a := a) (b := b) (by omega) (by omega)
    generalize notR b = nb at hn hinv ⊢
    by_cases h5 : a = 1 ∨ b = 1 ∨ b = notR a
    · rw [if_pos h5]
      have h5' : a = 1 ∨ b = 1 ∨ a = nb := h5.imp id (fun h => h.imp id hinv.1)
      refine Fn.enter (n := 62) Try.func66 rfl rfl rfl rfl rfl (by decide) fun g hro_ hwt_ => ?_; (try refine nz ?_)
      by_cases j1 : a = 1
      · (refine zq ?_; refine AOps.box rfl rfl rfl rfl ?_; refine nz ?_; refine AOps.allocN' rfl rfl rfl rfl ?_; refine nz ?_; refine za ?_; refine zd ?_; refine zq ?_; refine nz ?_; refine AOps.makeFunc_c rfl rfl rfl ?_; refine AOps.assign rfl rfl rfl ?_; refine nz ?_; refine zd ?_; refine zo ?_; refine AW.block ?_; refine zq ?_; refine AOps.move_clo rfl rfl rfl ?_; refine zm ?_; refine zC (hva) ?_; refine AOps.not rfl rfl rfl ?_; refine zm ?_; refine zl ?_; refine AOps.move_clo rfl rfl rfl ?_; refine zl ?_; refine zm ?_; refine zl ?_; refine zC (hvb) ?_; refine zl ?_; refine AOps.not rfl rfl rfl ?_; refine AOps.pick_lf rfl rfl rfl rfl rfl rfl ?_; refine za ?_; refine zd ?_; refine AW.cond_lf rfl rfl ?_; refine zq ?_; refine nz ?_; refine zm ?_; refine AOps.eql rfl rfl rfl rfl rfl ?_; refine zm ?_; (iterate 2 refine AOps.guardFn rfl rfl rfl rfl rfl rfl (by with_reducible assumption) ?_); refine zT ?_; refine zm ?_; (iterate 4 refine AOps.guard_lf rfl rfl rfl rfl rfl rfl rfl ?_); refine AOps.pick_lt rfl rfl rfl rfl rfl rfl ?_; refine za ?_; refine zd ?_; refine AW.cond_lt rfl rfl ?_; refine zq ?_; refine nz ?_; refine zL ?_; refine nz ?_; refine zB ?_; refine nz ?_; refine za ?_; refine zd ?_; refine AW.ret ?_; refine inBlockD_ret ?_; refine thenD_ret ?_)
        (apply ends_ret; (exact Res.two (.cell rfl rfl rfl rfl) (.tmp rfl rfl)); (refine Le.tupL ?_; refine LeL.cons ?_ ?_; refine Le.aggL ?_; refine LeL.cons ?_ ?_; (with_reducible exact Le.pv _); exact LeL.nil; refine LeL.cons ?_ ?_; refine Le.litI ?_; (rfl); exact LeL.nil))
      · by_cases j2 : b = 1
        · (refine zq ?_; refine AOps.box rfl rfl rfl rfl ?_; refine nz ?_; refine AOps.allocN' rfl rfl rfl rfl ?_; refine nz ?_; refine za ?_; refine zd ?_; refine zq ?_; refine nz ?_; refine AOps.makeFunc_c rfl rfl rfl ?_; refine AOps.assign rfl rfl rfl ?_; refine nz ?_; refine zd ?_; refine zo ?_; refine AW.block ?_; refine zq ?_; refine AOps.move_clo rfl rfl rfl ?_; refine zm ?_; refine zC (hva) ?_; refine AOps.not rfl rfl rfl ?_; refine zm ?_; refine zl ?_; refine AOps.move_clo rfl rfl rfl ?_; refine zl ?_; refine zm ?_; refine zl ?_; refine zC (hvb) ?_; refine zl ?_; refine AOps.not rfl rfl rfl ?_; refine AOps.pick_lf rfl rfl rfl rfl rfl rfl ?_; refine za ?_; refine zd ?_; refine AW.cond_lf rfl rfl ?_; refine zq ?_; refine nz ?_; refine zm ?_; refine AOps.eql rfl rfl rfl rfl rfl ?_; refine zm ?_; refine zy ?_; refine zm ?_; refine zy ?_; refine AOps.eql rfl rfl rfl rfl rfl ?_; refine zF ?_; refine zm ?_; (iterate 4 refine AOps.guardFn rfl rfl rfl rfl rfl rfl (by with_reducible assumption) ?_); refine zT ?_; refine za ?_; refine zd ?_; refine AW.cond_lt rfl rfl ?_; refine zq ?_; refine nz ?_; refine zL ?_; refine nz ?_; refine zB ?_; refine nz ?_; refine za ?_; refine zd ?_; refine AW.ret ?_; refine inBlockD_ret ?_; refine thenD_ret ?_)
          (apply ends_ret; (exact Res.two (.cell rfl rfl rfl rfl) (.tmp rfl rfl)); (refine Le.tupL ?_; refine LeL.cons ?_ ?_; refine Le.aggL ?_; refine LeL.cons ?_ ?_; (with_reducible exact Le.pv _); exact LeL.nil; refine LeL.cons ?_ ?_; refine Le.litI ?_; (rfl); exact LeL.nil))
        · have j3 : a = nb := by omega
          (refine zq ?_; refine AOps.box rfl rfl rfl rfl ?_; refine nz ?_; refine AOps.allocN' rfl rfl rfl rfl ?_; refine nz ?_; refine za ?_; refine zd ?_; refine zq ?_; refine nz ?_; refine AOps.makeFunc_c rfl rfl rfl ?_; refine AOps.assign rfl rfl rfl ?_; refine nz ?_; refine zd ?_; refine zo ?_; refine AW.block ?_; refine zq ?_; refine AOps.move_clo rfl rfl rfl ?_; refine zm ?_; refine zC (hva) ?_; refine AOps.not rfl rfl rfl ?_; refine zm ?_; refine zl ?_; refine AOps.move_clo rfl rfl rfl ?_; refine zl ?_; refine zm ?_; refine zl ?_; refine zC (hvb) ?_; refine zl ?_; refine AOps.not rfl rfl rfl ?_; refine AOps.pick_lf rfl rfl rfl rfl rfl rfl ?_; refine za ?_; refine zd ?_; refine AW.cond_lf rfl rfl ?_; refine zq ?_; refine nz ?_; refine zm ?_; refine AOps.eql rfl rfl rfl rfl rfl ?_; refine zm ?_; refine zy ?_; refine zm ?_; refine zy ?_; refine AOps.eql rfl rfl rfl rfl rfl ?_; refine zF ?_; refine zm ?_; refine zy ?_; refine zm ?_; refine zy ?_; refine zm ?_; refine zy ?_; refine zA (hn) ?_; refine zy ?_; refine AOps.eql rfl rfl rfl rfl rfl ?_; refine zF ?_; refine za ?_; refine zd ?_; refine zc ?_; refine zq ?_; refine nz ?_; refine zL ?_; refine nz ?_; refine zB ?_; refine nz ?_; refine za ?_; refine zd ?_; refine AW.ret ?_; refine inBlockD_ret ?_; refine thenD_ret ?_)
          (apply ends_ret; (exact Res.two (.cell rfl rfl rfl rfl) (.tmp rfl rfl)); (refine Le.tupL ?_; refine LeL.cons ?_ ?_; refine Le.aggL ?_; refine LeL.cons ?_ ?_; (with_reducible exact Le.pv _); exact LeL.nil; refine LeL.cons ?_ ?_; refine Le.litI ?_; (rfl); exact LeL.nil))
    · rw [if_neg h5]
      have k1 : ¬ a = 1 := fun h => h5 (.inl h)
      have k2 : ¬ b = 1 := fun h => h5 (.inr (.inl h))
      have k3 : ¬ a = nb := fun h => h5 (.inr (.inr (hinv.2 h)))
      refine Fn.enter (n := 62) Try.func66 rfl rfl rfl rfl rfl (by decide) fun g hro_ hwt_ => ?_; (try refine nz ?_)
      by_cases h6 : a = 0
      · rw [if_pos h6]
        (refine zq ?_; refine AOps.box rfl rfl rfl rfl ?_; refine nz ?_; refine AOps.allocN' rfl rfl rfl rfl ?_; refine nz ?_; refine za ?_; refine zd ?_; refine zq ?_; refine nz ?_; refine AOps.makeFunc_c rfl rfl rfl ?_; refine AOps.assign rfl rfl rfl ?_; refine nz ?_; refine zd ?_; refine zo ?_; refine AW.block ?_; refine zq ?_; refine AOps.move_clo rfl rfl rfl ?_; refine zm ?_; refine zC (hva) ?_; refine AOps.not rfl rfl rfl ?_; refine zm ?_; refine zl ?_; refine AOps.move_clo rfl rfl rfl ?_; refine zl ?_; refine zm ?_; refine zl ?_; refine zC (hvb) ?_; refine zl ?_; refine AOps.not rfl rfl rfl ?_; refine AOps.pick_lf rfl rfl rfl rfl rfl rfl ?_; refine za ?_; refine zd ?_; refine AW.cond_lf rfl rfl ?_; refine zq ?_; refine nz ?_; refine zm ?_; refine AOps.eql rfl rfl rfl rfl rfl ?_; refine zm ?_; refine zy ?_; refine zm ?_; refine zy ?_; refine AOps.eql rfl rfl rfl rfl rfl ?_; refine zF ?_; refine zm ?_; refine zy ?_; refine zm ?_; refine zy ?_; refine zm ?_; refine zy ?_; refine zA (hn) ?_; refine zy ?_; refine AOps.eql rfl rfl rfl rfl rfl ?_; refine zF ?_; refine za ?_; refine zd ?_; refine zk ?_; refine zq ?_; refine nz ?_; refine zm ?_; refine AOps.eql rfl rfl rfl rfl rfl ?_; refine za ?_; refine zd ?_; refine zc ?_; refine zq ?_; refine nz ?_; refine zL ?_; refine nz ?_; refine zm ?_; refine zB ?_; refine nz ?_; refine za ?_; refine zd ?_; refine AW.ret ?_; refine inBlockD_ret ?_; refine thenD_ret ?_)
        (apply ends_ret; (exact Res.two (.cell rfl rfl rfl rfl) (.tmp rfl rfl)); (refine Le.tupL ?_; refine LeL.cons ?_ ?_; refine Le.aggL ?_; refine LeL.cons ?_ ?_; (with_reducible exact Le.pv _); exact LeL.nil; refine LeL.cons ?_ ?_; refine Le.litI ?_; (rfl); exact LeL.nil))
      · rw [if_neg h6]
        by_cases h7 : b = 0 ∨ a = b
        · rw [if_pos h7]
          by_cases j1 : b = 0
          · (refine zq ?_; refine AOps.box rfl rfl rfl rfl ?_; refine nz ?_; refine AOps.allocN' rfl rfl rfl rfl ?_; refine nz ?_; refine za ?_; refine zd ?_; refine zq ?_; refine nz ?_; refine AOps.makeFunc_c rfl rfl rfl ?_; refine AOps.assign rfl rfl rfl ?_; refine nz ?_; refine zd ?_; refine zo ?_; refine AW.block ?_; refine zq ?_; refine AOps.move_clo rfl rfl rfl ?_; refine zm ?_; refine zC (hva) ?_; refine AOps.not rfl rfl rfl ?_; refine zm ?_; refine zl ?_; refine AOps.move_clo rfl rfl rfl ?_; refine zl ?_; refine zm ?_; refine zl ?_; refine zC (hvb) ?_; refine zl ?_; refine AOps.not rfl rfl rfl ?_; refine AOps.pick_lf rfl rfl rfl rfl rfl rfl ?_; refine za ?_; refine zd ?_; refine AW.cond_lf rfl rfl ?_; refine zq ?_; refine nz ?_; refine zm ?_; refine AOps.eql rfl rfl rfl rfl rfl ?_; refine zm ?_; refine zy ?_; refine zm ?_; refine zy ?_; refine AOps.eql rfl rfl rfl rfl rfl ?_; refine zF ?_; refine zm ?_; refine zy ?_; refine zm ?_; refine zy ?_; refine zm ?_; refine zy ?_; refine zA (hn) ?_; refine zy ?_; refine AOps.eql rfl rfl rfl rfl rfl ?_; refine zF ?_; refine za ?_; refine zd ?_; refine zk ?_; refine zq ?_; refine nz ?_; refine zm ?_; refine AOps.eql rfl rfl rfl rfl rfl ?_; refine za ?_; refine zd ?_; refine zk ?_; refine zq ?_; refine nz ?_; refine zm ?_; refine AOps.eql rfl rfl rfl rfl rfl ?_; refine zm ?_; (iterate 3 refine AOps.guardFn rfl rfl rfl rfl rfl rfl (by with_reducible assumption) ?_); refine zT ?_; refine za ?_; refine zd ?_; refine AW.cond_lt rfl rfl ?_; refine zq ?_; refine nz ?_; refine zL ?_; refine nz ?_; refine zm ?_; refine zB ?_; refine nz ?_; refine za ?_; refine zd ?_; refine AW.ret ?_; refine inBlockD_ret ?_; refine thenD_ret ?_)
            (apply ends_ret; (exact Res.two (.cell rfl rfl rfl rfl) (.tmp rfl rfl)); (refine Le.tupL ?_; refine LeL.cons ?_ ?_; refine Le.aggL ?_; refine LeL.cons ?_ ?_; (with_reducible exact Le.pv _); exact LeL.nil; refine LeL.cons ?_ ?_; refine Le.litI ?_; (rfl); exact LeL.nil))
          · have j2 : a = b := by omega
            (refine zq ?_; refine AOps.box rfl rfl rfl rfl ?_; refine nz ?_; refine AOps.allocN' rfl rfl rfl rfl ?_; refine nz ?_; refine za ?_; refine zd ?_; refine zq ?_; refine nz ?_; refine AOps.makeFunc_c rfl rfl rfl ?_; refine AOps.assign rfl rfl rfl ?_; refine nz ?_; refine zd ?_; refine zo ?_; refine AW.block ?_; refine zq ?_; refine AOps.move_clo rfl rfl rfl ?_; refine zm ?_; refine zC (hva) ?_; refine AOps.not rfl rfl rfl ?_; refine zm ?_; refine zl ?_; refine AOps.move_clo rfl rfl rfl ?_; refine zl ?_; refine zm ?_; refine zl ?_; refine zC (hvb) ?_; refine zl ?_; refine AOps.not rfl rfl rfl ?_; refine AOps.pick_lf rfl rfl rfl rfl rfl rfl ?_; refine za ?_; refine zd ?_; refine AW.cond_lf rfl rfl ?_; refine zq ?_; refine nz ?_; refine zm ?_; refine AOps.eql rfl rfl rfl rfl rfl ?_; refine zm ?_; refine zy ?_; refine zm ?_; refine zy ?_; refine AOps.eql rfl rfl rfl rfl rfl ?_; refine zF ?_; refine zm ?_; refine zy ?_; refine zm ?_; refine zy ?_; refine zm ?_; refine zy ?_; refine zA (hn) ?_; refine zy ?_; refine AOps.eql rfl rfl rfl rfl rfl ?_; refine zF ?_; refine za ?_; refine zd ?_; refine zk ?_; refine zq ?_; refine nz ?_; refine zm ?_; refine AOps.eql rfl rfl rfl rfl rfl ?_; refine za ?_; refine zd ?_; refine zk ?_; refine zq ?_; refine nz ?_; refine zm ?_; refine AOps.eql rfl rfl rfl rfl rfl ?_; refine zm ?_; refine zy ?_; refine zm ?_; refine zy ?_; refine zm ?_; refine zy ?_; refine AOps.eql rfl rfl rfl rfl rfl ?_; refine zF ?_; refine za ?_; refine zd ?_; refine zc ?_; refine zq ?_; refine nz ?_; refine zL ?_; refine nz ?_; refine zm ?_; refine zB ?_; refine nz ?_; refine za ?_; refine zd ?_; refine AW.ret ?_; refine inBlockD_ret ?_; refine thenD_ret ?_)
            (apply ends_ret; (exact Res.two (.cell rfl rfl rfl rfl) (.tmp rfl rfl)); (refine Le.tupL ?_; refine LeL.cons ?_ ?_; refine Le.aggL ?_; refine LeL.cons ?_ ?_; (with_reducible exact Le.pv _); exact LeL.nil; refine LeL.cons ?_ ?_; refine Le.litI ?_; (rfl); exact LeL.nil))
        · rw [if_neg h7]
          have m1 : ¬ b = 0 := by omega
          have m2 : ¬ a = b := by omega
          (refine zq ?_; refine AOps.box rfl rfl rfl rfl ?_; refine nz ?_; refine AOps.allocN' rfl rfl rfl rfl ?_; refine nz ?_; refine za ?_; refine zd ?_; refine zq ?_; refine nz ?_; refine AOps.makeFunc_c rfl rfl rfl ?_; refine AOps.assign rfl rfl rfl ?_; refine nz ?_; refine zd ?_; refine zo ?_; refine AW.block ?_; refine zq ?_; refine AOps.move_clo rfl rfl rfl ?_; refine zm ?_; refine zC (hva) ?_; refine AOps.not rfl rfl rfl ?_; refine zm ?_; refine zl ?_; refine AOps.move_clo rfl rfl rfl ?_; refine zl ?_; refine zm ?_; refine zl ?_; refine zC (hvb) ?_; refine zl ?_; refine AOps.not rfl rfl rfl ?_; refine AOps.pick_lf rfl rfl rfl rfl rfl rfl ?_; refine za ?_; refine zd ?_; refine AW.cond_lf rfl rfl ?_; refine zq ?_; refine nz ?_; refine zm ?_; refine AOps.eql rfl rfl rfl rfl rfl ?_; refine zm ?_; refine zy ?_; refine zm ?_; refine zy ?_; refine AOps.eql rfl rfl rfl rfl rfl ?_; refine zF ?_; refine zm ?_; refine zy ?_; refine zm ?_; refine zy ?_; refine zm ?_; refine zy ?_; refine zA (hn) ?_; refine zy ?_; refine AOps.eql rfl rfl rfl rfl rfl ?_; refine zF ?_; refine za ?_; refine zd ?_; refine zk ?_; refine zq ?_; refine nz ?_; refine zm ?_; refine AOps.eql rfl rfl rfl rfl rfl ?_; refine za ?_; refine zd ?_; refine zk ?_; refine zq ?_; refine nz ?_; refine zm ?_; refine AOps.eql rfl rfl rfl rfl rfl ?_; refine zm ?_; refine zy ?_; refine zm ?_; refine zy ?_; refine zm ?_; refine zy ?_; refine AOps.eql rfl rfl rfl rfl rfl ?_; refine zF ?_; refine za ?_; refine zd ?_; refine zk ?_; refine AW.skip ?_; refine inBlockD_n ?_; refine thenD_n ?_; refine zq ?_; refine nz ?_; refine zL ?_; refine nz ?_; (iterate 2 refine zm ?_); refine AOps.min2 rfl rfl rfl rfl rfl ?_; (iterate 2 refine zm ?_); refine AOps.max2 rfl rfl rfl rfl rfl ?_; refine AOps.buildN 82 [0, 1, 2] rfl rfl rfl rfl rfl rfl rfl rfl rfl ?_; refine nz ?_; refine zP (hs) ?_; (iterate 2 refine AOps.extract rfl rfl rfl rfl ?_); refine zB ?_; refine nz ?_; refine za ?_; refine zd ?_; refine AW.ret ?_)
          (apply ends_ret; (exact Res.two (.cell rfl rfl rfl rfl) (.tmp rfl rfl)); (refine Le.tupL ?_; refine LeL.cons ?_ ?_; refine Le.aggL ?_; refine LeL.cons ?_ ?_; (with_reducible exact Le.pv _); exact LeL.nil; refine LeL.cons ?_ ?_; refine Le.litI ?_; (rfl); exact LeL.nil))
end Go.Ab
/- Chapter 24: the builder of predicates: its methods; the inverse of a permutation, walked. -/
namespace Go.Ab
open Go Go.Proofs
open Nat (reduceAdd reduceSub)
set_option maxRecDepth 20000
set_option maxHeartbeats 4000000
def invTo (perm : List Int) (k : Nat) : List Int := (List.range perm.length).map fun j : Nat => if perm.findIdx (fun x => decide (x = (j : Int) + 1)) < k then backM perm ((j : Int) + 1) else 0
theorem invTo_len (perm : List Int) (k : Nat) : (invTo perm k).length = perm.length := by simp [invTo]
theorem invTo_zero (perm : List Int) : invTo perm 0 = List.replicate perm.length 0 := by
  rw [List.eq_replicate_iff]
  refine ⟨invTo_len perm 0, fun x hx => ?_⟩
  obtain ⟨j, _, rfl⟩ := List.mem_map.1 hx
  rw [if_neg (by omega)]
theorem invTo_all {perm : List Int} (h : PermOk perm) : invTo perm perm.length = invM perm := by
  unfold invTo invM
  refine List.map_congr_left fun j hj => ?_
  have hj := List.mem_range.1 hj
  obtain ⟨i, hi, h1, _⟩ := h.at (w := (j : Int) + 1) (by omega)
  rw [if_pos (by omega)]
theorem invTo_set {perm : List Int} (h : PermOk perm) {k : Nat} (hk : k < perm.length) : (invTo perm k).set (perm[k] - 1).toNat ((k : Int) + 1) = invTo perm (k + 1) := by
  have hr := h.rng _ (List.getElem_mem hk)
  refine List.ext_getElem (by simp [invTo]) fun j h1 h2 => ?_
  have hj : j < perm.length := by simpa [invTo] using h2
  obtain ⟨i, hi, i1, i2⟩ := h.at (w := (j : Int) + 1) (by omega)
  rw [List.getElem_set]
  simp only [invTo, List.getElem_map, List.getElem_range, i1]
  by_cases e : (perm[k] - 1).toNat = j
  · rw [if_pos e]
    have e2 : perm[i] = perm[k] := by rw [i2]; omega
    have := (List.getElem_inj h.nodup).1 e2
    subst this
    rw [if_pos (by omega)]
    unfold backM
    rw [i1]
  · rw [if_neg e]
    have : i ≠ k := by rintro rfl; omega
    by_cases hik : i < k
    · rw [if_pos hik, if_pos (by omega)]
    · rw [if_neg hik, if_neg (by omega)]
theorem setI1 (l : List Int) (i : Nat) (x : Int) : (l.map encI).set i [PV.lit (.int .i64 x)] = (l.set i x).map encI := by
  rw [List.map_set]; rfl
attribute [local irreducible] AW AOps thenD inBlockD AR iterEnds roundEndsN inlEnds noGotoD findG EndsX invTo invM
theorem inverse_fn (perm : List Int) (h : PermOk perm) (hl : perm.length ≤ 100000) : Fn Try.prog 46 [.pv (ints perm)] (.pv (ints (invM perm))) := by
  refine Fn.enter (n := 24) Try.func46 rfl rfl rfl rfl rfl (by decide) fun g hro_ hwt_ => ?_; (try refine nz ?_)
  (refine zq ?_; refine za ?_; refine zd ?_; refine zq ?_; refine nz ?_; refine zm ?_; refine zn ?_; refine AOps.makeSlice1 rfl rfl rfl rfl rfl rfl rfl rfl rfl rfl (by omega) ?_; refine nz ?_; refine AOps.assign_own rfl rfl rfl ?_; refine zd ?_; refine zo ?_; refine zq ?_; refine nz ?_; refine zm ?_; refine zn ?_; refine zm ?_; refine zd ?_; refine AW.block ?_)
  (refine nz ?_; apply AW.loopR [10, 9, 2] [] (fun k : Nat => ([(11, litI k), (3, .own 0 3 1 ((invTo perm k).map encI))] : List (Nat × AV))) (fun k : Nat => ([(0, some .row)] : List (Nat × Option Ob))) (fun k : Nat => k ≤ perm.length) (fun k : Nat => perm.length - k) (0); (conv => lhs; simp only [Nf.lpR, Nf.all, Nat.reduceBEq, reduceAdd, reduceSub]); (all_goals skip))
  · exact Nat.zero_le _
  · exact weak rfl (by (refine ⟨.intE (by first | with_reducible rfl | (first | rfl | (rw [invTo_zero, List.map_replicate]; rfl) | (show List.replicate _ _ = List.map encI _; rw [invTo_zero, List.map_replicate, Int.toNat_natCast]; rfl))), ?_⟩; refine ⟨.ownE (by first | with_reducible rfl | (first | rfl | (rw [invTo_zero, List.map_replicate]; rfl) | (show List.replicate _ _ = List.map encI _; rw [invTo_zero, List.map_replicate, Int.toNat_natCast]; rfl))) rfl, ?_⟩; refine ⟨.intE (by first | with_reducible rfl | (first | rfl | (rw [invTo_zero, List.map_replicate]; rfl) | (show List.replicate _ _ = List.map encI _; rw [invTo_zero, List.map_replicate, Int.toNat_natCast]; rfl))), ?_⟩; refine ⟨.pvE (by first | with_reducible rfl | (first | rfl | (rw [invTo_zero, List.map_replicate]; rfl) | (show List.replicate _ _ = List.map encI _; rw [invTo_zero, List.map_replicate, Int.toNat_natCast]; rfl))), ?_⟩; refine ⟨.eq rfl rfl, ?_⟩; exact trivial)) (by (refine ⟨.row rfl, ?_⟩; exact trivial)) rfl
  rintro k hk
  have hil := invTo_len perm k
  by_cases hlt : k < perm.length
  · have hst := invTo_set h hlt
    have hr := h.rng _ (List.getElem_mem hlt)
    (refine zq ?_; refine zs ?_; refine zd ?_; refine zo ?_; refine zc ?_; refine AW.skip ?_; refine thenD_n ?_; refine zo ?_; refine AW.block ?_; refine zq ?_; refine nz ?_; refine zm ?_; (focus ((with_reducible apply AOps.index_map); (iterate 7 exact rfl); rotate_left; omega)); refine zr ?_; (iterate 2 refine za ?_); refine zd ?_; refine AW.region ?_; refine nz ?_; refine AOps.move_own rfl rfl rfl ?_; refine zm ?_; refine AOps.sub rfl rfl rfl rfl rfl (by omega) ?_; refine zm ?_; refine zj ?_; refine AOps.index_own_mapI rfl rfl rfl rfl rfl rfl rfl (by omega) (by omega) ?_; refine AOps.store_o1 rfl rfl rfl rfl rfl rfl rfl rfl ?_; refine AOps.nil ?_; refine inBlockD_n ?_; refine thenD_n ?_; refine AW.region ?_; refine nz ?_; refine zj ?_; refine zm ?_; refine zd ?_)
    exact ⟨k + 1, by omega, by omega, weak rfl (by (refine ⟨.intE (by first | with_reducible rfl | (first | rfl | (rw [setI1, hst]))), ?_⟩; refine ⟨.ownE (by first | with_reducible rfl | (first | rfl | (rw [setI1, hst]))) rfl, ?_⟩; refine ⟨.intE (by first | with_reducible rfl | (first | rfl | (rw [setI1, hst]))), ?_⟩; refine ⟨.pvE (by first | with_reducible rfl | (first | rfl | (rw [setI1, hst]))), ?_⟩; refine ⟨.eq rfl rfl, ?_⟩; exact trivial)) (by (refine ⟨.row rfl, ?_⟩; exact trivial)) rfl⟩
  · obtain rfl : k = perm.length := by omega
    rw [invTo_all h]
    (refine zq ?_; refine zs ?_; refine zd ?_; refine zo ?_; refine zk ?_; refine AW.exit ?_; (iterate 2 refine thenD_exit ?_); refine inBlockD_exit ?_; refine thenD_n ?_; refine zq ?_; refine nz ?_; refine AOps.move_own rfl rfl rfl ?_; refine AOps.assign_own rfl rfl rfl ?_; refine zd ?_; refine AW.ret ?_)
    (apply ends_ret; (exact Res.one (.tmp rfl rfl)); (exact Le.own _ _ _ _ rfl))
abbrev bO (gs : List GateM) : List (Nat × Option Ob) := [(0, some (.box [.pv (gatesV gs)]))]
theorem bInput_fn (gs : List GateM) (v : Int) (hl : gs.length ≤ 1000000) (hne : 0 < gs.length) : FnX Try.prog 56 1 (bO gs) [.ptr 0 0, litI v] (bO (inputG gs v).1) (litI (inputG gs v).2) := by
  have hi := pInput_fn gs v hl hne
  generalize inputG gs v = p at hi ⊢
  obtain ⟨gs', r⟩ := p
  simp only at hi ⊢
  refine FnX.enter (n := 21) Try.func56 rfl rfl rfl rfl rfl (by decide) rfl rfl fun g hro_ hwt_ => ?_; (conv => rhs; simp only [Nf.en0, Nf.en1, Nf.pi0, Nf.pir, Nf.pib, Nf.pim, Nf.cn, Nf.nn, Nat.reduceAdd, Nat.zero_add])
  (refine zq ?_; refine za ?_; refine zd ?_; refine zq ?_; refine nz ?_; refine AOps.move_ptr rfl rfl rfl ?_; refine AOps.nilCheck_ptr rfl rfl rfl ?_; refine AOps.fieldAddrN 79 0 0 rfl rfl rfl rfl ?_; refine zL ?_; refine nz ?_; refine zm ?_; refine zP (hi) ?_; refine AOps.move_tup rfl rfl rfl ?_; (iterate 2 refine AOps.extract rfl rfl rfl rfl ?_); refine AOps.allocN' rfl rfl rfl rfl ?_; refine nz ?_; refine zB ?_; refine nz ?_; refine za ?_; refine zd ?_; refine zq ?_; refine nz ?_; refine AOps.move_ptr rfl rfl rfl ?_; refine zL ?_; refine nz ?_; refine AOps.nilCheck_ptr rfl rfl rfl ?_; refine AOps.fieldAddrN 79 0 0 rfl rfl rfl rfl ?_; refine zB ?_; refine nz ?_; refine zd ?_; refine zq ?_; refine zm ?_; refine za ?_; refine zd ?_; refine AW.ret ?_)
  (apply endsX_ret; ((exact Res.one (.tmp rfl rfl))); ((refine ⟨.intE (by first | with_reducible rfl | (rfl)), ?_⟩; refine ⟨.eq rfl rfl, ?_⟩; exact trivial)); ((refine ⟨.box _ rfl ?_, ?_⟩; refine ⟨.pvE (by first | with_reducible rfl | (rfl)), ?_⟩; (iterate 2 exact trivial))); exact rfl)
theorem bAnd_fn (gs : List GateM) (a b : Int) (hl : gs.length ≤ 400000) (hne : 0 < gs.length) (ha : -1000000 ≤ a ∧ a ≤ 1000000) (hb : -1000000 ≤ b ∧ b ≤ 1000000) : FnX Try.prog 39 1 (bO gs) [.ptr 0 0, litI a, litI b] (bO (andG gs a b).1) (litI (andG gs a b).2) := by
  have hi := pAnd_fn gs a b hl hne ha hb
  generalize andG gs a b = p at hi ⊢
  obtain ⟨gs', r⟩ := p
  simp only at hi ⊢
  refine FnX.enter (n := 24) Try.func39 rfl rfl rfl rfl rfl (by decide) rfl rfl fun g hro_ hwt_ => ?_; (conv => rhs; simp only [Nf.en0, Nf.en1, Nf.pi0, Nf.pir, Nf.pib, Nf.pim, Nf.cn, Nf.nn, Nat.reduceAdd, Nat.zero_add])
  (refine zq ?_; refine za ?_; refine zd ?_; refine zq ?_; refine nz ?_; refine AOps.move_ptr rfl rfl rfl ?_; refine AOps.nilCheck_ptr rfl rfl rfl ?_; refine AOps.fieldAddrN 79 0 0 rfl rfl rfl rfl ?_; refine zL ?_; refine nz ?_; (iterate 2 refine zm ?_); refine zP (hi) ?_; refine AOps.move_tup rfl rfl rfl ?_; (iterate 2 refine AOps.extract rfl rfl rfl rfl ?_); refine AOps.allocN' rfl rfl rfl rfl ?_; refine nz ?_; refine zB ?_; refine nz ?_; refine za ?_; refine zd ?_; refine zq ?_; refine nz ?_; refine AOps.move_ptr rfl rfl rfl ?_; refine zL ?_; refine nz ?_; refine AOps.nilCheck_ptr rfl rfl rfl ?_; refine AOps.fieldAddrN 79 0 0 rfl rfl rfl rfl ?_; refine zB ?_; refine nz ?_; refine zd ?_; refine zq ?_; refine zm ?_; refine za ?_; refine zd ?_; refine AW.ret ?_)
  (apply endsX_ret; ((exact Res.one (.tmp rfl rfl))); ((refine ⟨.intE (by first | with_reducible rfl | (rfl)), ?_⟩; refine ⟨.eq rfl rfl, ?_⟩; exact trivial)); ((refine ⟨.box _ rfl ?_, ?_⟩; refine ⟨.pvE (by first | with_reducible rfl | (rfl)), ?_⟩; (iterate 2 exact trivial))); exact rfl)
theorem bOr_fn (gs : List GateM) (a b : Int) (hl : gs.length ≤ 100000) (hne : 0 < gs.length) (ha : -500000 ≤ a ∧ a ≤ 500000) (hb : -500000 ≤ b ∧ b ≤ 500000) : FnX Try.prog 58 1 (bO gs) [.ptr 0 0, litI a, litI b] (bO (orG gs a b).1) (litI (orG gs a b).2) := by
  have h1 := pNot_fn a (by omega)
  have h2 := pNot_fn b (by omega)
  have b1 := notR_b ha
  have b2 := notR_b hb
  have h3 := bAnd_fn gs (notR a) (notR b) (by omega) hne (by omega) (by omega)
  have q3 := andG_b (gs := gs) (a := notR a) (b := notR b) (by omega) (by omega) (by omega)
  unfold orG
  generalize andG gs (notR a) (notR b) = p at h3 q3 ⊢
  generalize notR a = na at h1 h3 b1
  generalize notR b = nb at h2 h3 b2
  obtain ⟨gs', r⟩ := p
  simp only at h3 q3 ⊢
  have h4 := pNot_fn r (by omega)
  generalize notR r = nr at h4 ⊢
  refine FnX.enter (n := 14) Try.func58 rfl rfl rfl rfl rfl (by decide) rfl rfl fun g hro_ hwt_ => ?_; (conv => rhs; simp only [Nf.en0, Nf.en1, Nf.pi0, Nf.pir, Nf.pib, Nf.pim, Nf.cn, Nf.nn, Nat.reduceAdd, Nat.zero_add])
  (refine zq ?_; refine za ?_; refine zd ?_; refine zq ?_; refine nz ?_; refine AOps.move_ptr rfl rfl rfl ?_; refine zm ?_; refine zA (h1) ?_; refine zm ?_; refine zA (h2) ?_; refine zX (h3) ?_; refine nx ?_; refine nz ?_; refine zA (h4) ?_; refine za ?_; refine zd ?_; refine AW.ret ?_)
  (apply endsX_ret; ((exact Res.one (.tmp rfl rfl))); ((refine ⟨.intE (by first | with_reducible rfl | (rfl)), ?_⟩; refine ⟨.eq rfl rfl, ?_⟩; exact trivial)); ((refine ⟨.box _ rfl ?_, ?_⟩; refine ⟨.pvE (by first | with_reducible rfl | (rfl)), ?_⟩; (iterate 2 exact trivial))); exact rfl)
end Go.Ab
/- Chapter 19: a reference's value, walked: the reference's Eval and the program's. -/
namespace Go.Ab
open Go Go.Proofs
open Nat (reduceAdd reduceSub)
set_option maxRecDepth 20000
set_option maxHeartbeats 4000000
attribute [local irreducible] AW AOps thenD inBlockD AR iterEnds roundEndsN inlEnds noGotoD
theorem doneG_take (gs : List GateM) (vals : List Bool) {i : Nat} (h : i < gs.length) : doneG gs vals (i + 1) = doneG gs vals i ++ [gateV vals (doneG gs vals i) gs[i]] := by
  rw [doneG, List.getD_eq_getElem?_getD, List.getElem?_eq_getElem h]; rfl
theorem CirOk.cases {gs : List GateM} (hc : CirOk gs) {i : Nat} (h : i < gs.length) : (gs[i].k = 0) ∨ (gs[i].k = 1 ∧ 1 ≤ gs[i].a ∧ gs[i].a ≤ 1000) ∨ (gs[i].k = 2 ∧ 2 ≤ gs[i].a ∧ gs[i].a < gs[i].b ∧ gs[i].b < 2 * (i : Int)) := by
  by_cases h0 : i = 0
  · subst h0
    have := hc.zero
    rw [List.getElem?_eq_getElem h] at this
    rw [Option.some.inj this]
    exact .inl rfl
  · rcases hc.ok i h h0 with h1 | h1
    · exact .inr (.inl ⟨h1.1, h1.2.1, h1.2.2.1⟩)
    · exact .inr (.inr ⟨h1.1, h1.2.1, h1.2.2.1, h1.2.2.2.1⟩)
theorem inV_at {vals : List Bool} {a : Int} (h : 1 ≤ a) (h2 : a ≤ (vals.length : Int)) : inV vals a = vals[(a - 1).toNat]'(by omega) := by
  unfold inV
  rw [List.getD_eq_getElem?_getD, List.getElem?_eq_getElem (by omega)]; rfl
theorem inV_out {vals : List Bool} {a : Int} (h : 1 ≤ a) (h2 : ¬ a ≤ (vals.length : Int)) : inV vals a = false := by
  unfold inV
  rw [List.getD_eq_getElem?_getD, List.getElem?_eq_none (by omega)]; rfl
theorem refV_at {done : List Bool} {r : Int} (h : 0 ≤ r) (h2 : r < 2 * (done.length : Int)) : refV done r = decide (done[(r / 2).toNat]'(by omega) = decide (r % 2 = 0)) := by
  unfold refV
  rw [List.getD_eq_getElem?_getD, List.getElem?_eq_getElem (by omega)]
  simp only [Option.getD_some]
  cases done[(r / 2).toNat]'(by omega) <;> cases decide (r % 2 = 0) <;> rfl
theorem evalG_done (gs : List GateM) (vals : List Bool) {r : Int} (h0 : 0 ≤ r) {d : List Bool} (hd : d = doneG gs vals ((r / 2).toNat + 1)) : ∃ h : (r / 2).toNat < d.length, evalG gs vals r = decide (d[(r / 2).toNat] = decide (r % 2 = 0)) := by
  subst hd
  refine ⟨by rw [doneG_len]; omega, ?_⟩
  rw [← refV_done gs vals (m := (r / 2).toNat + 1) h0 (by omega)]
  exact refV_at h0 (by rw [doneG_len]; omega)
theorem eval_fn (gs : List GateM) (vals : List Bool) (r : Int) (hc : CirOk gs) (hr : RefOk gs r) (hl : gs.length ≤ 100000) (hv : vals.length ≤ 100000) : Fn Try.prog 13 [crc gs, .pv (bools vals), litI r] (litB (evalG gs vals r)) := by
  have hr0 := hr
  unfold RefOk at hr
  refine Fn.enter (n := 92) Try.func13 rfl rfl rfl rfl rfl (by decide) fun g hro_ hwt_ => ?_; (try refine nz ?_)
  have p1 : ¬ r < 0 := by omega
  have p2 : ¬ 2 * (gs.length : Int) ≤ r := by omega
  (refine zq ?_; refine AOps.box rfl rfl rfl rfl ?_; refine nz ?_; refine za ?_; refine zd ?_; refine zo ?_; refine zq ?_; refine nz ?_; refine zm ?_; refine zs ?_; refine zm ?_; refine zy ?_; refine zm ?_; refine zy ?_; refine AOps.fieldAddrN 31 0 0 rfl rfl rfl rfl ?_; refine zy ?_; refine zb ?_; refine zy ?_; refine zn ?_; refine zy ?_; refine AOps.mul rfl rfl rfl rfl rfl (by omega) ?_; refine zy ?_; refine AOps.geq rfl rfl rfl rfl rfl ?_; refine zF ?_; refine zd ?_; refine zk ?_; refine AW.skip ?_; refine thenD_n ?_; refine zq ?_; refine nz ?_; refine za ?_; refine zd ?_; refine zo ?_; refine zq ?_; refine nz ?_; refine za ?_; refine zd ?_; refine AW.block ?_)
  (refine nz ?_; apply AW.loopR [6, 3, 1, 2] [0] (fun i : Nat => ([(8, litI i), (7, .own 1 4 1 ((doneG gs vals i).map encB))] : List (Nat × AV))) (fun i : Nat => ([(1, some .row)] : List (Nat × Option Ob))) (fun i : Nat => i ≤ (r / 2).toNat + 1) (fun i : Nat => (r / 2).toNat + 1 - i) (0); (conv => lhs; simp only [Nf.lpR, Nf.all, Nat.reduceBEq, reduceAdd, reduceSub]); (all_goals skip))
  · exact Nat.zero_le _
  · exact weak rfl (by (refine ⟨.eq rfl rfl, ?_⟩; refine ⟨.nilown _ _ _ rfl rfl, ?_⟩; (iterate 4 refine ⟨.eq rfl rfl, ?_⟩); exact trivial)) (by (refine ⟨.newrow rfl, ?_⟩; refine ⟨.box _ rfl ?_, ?_⟩; refine ⟨.eq rfl rfl, ?_⟩; (iterate 2 exact trivial))) rfl
  rintro i hi
  have hdl := doneG_len gs vals i
  by_cases hlt : i < (r / 2).toNat + 1
  · have hig : i < gs.length := by omega
    have hdt := doneG_take gs vals hig
    have hi2 : (i : Int) ≤ r / 2 := by omega
    generalize doneG gs vals i = d at hdl hdt ⊢
    rcases hc.cases hig with k0 | ⟨k1, a1, a2⟩ | ⟨k2, a1, a2, a3⟩
    · have n1 : ¬ gs[i].k = 1 := by omega
      have n2 : ¬ gs[i].k = 2 := by omega
      have e : gateV vals d gs[i] = true := by unfold gateV; rw [if_neg n1, if_neg n2]
      rw [e] at hdt
      (refine zo ?_; refine zq ?_; (iterate 2 refine zm ?_); refine AOps.quoE rfl rfl rfl rfl rfl (by omega) ?_; refine AOps.leq rfl rfl rfl rfl rfl ?_; refine zd ?_; refine zc ?_; refine AW.skip ?_; refine thenD_n ?_; refine zo ?_; refine AW.block ?_; refine zq ?_; refine nz ?_; refine AOps.fieldAddrN 31 0 0 rfl rfl rfl rfl ?_; refine zb ?_; refine zm ?_; (focus ((with_reducible apply AOps.index_map); (iterate 7 exact rfl); rotate_left; omega)); refine AOps.load_rn rfl rfl rfl rfl ?_; refine nz ?_; refine AOps.allocN' rfl rfl rfl rfl ?_; refine nz ?_; refine zB ?_; refine nz ?_; refine zd ?_; refine zq ?_; refine za ?_; refine zd ?_; refine zo ?_; refine zq ?_; refine nz ?_; refine AOps.fieldAddrN 82 0 0 rfl rfl rfl rfl ?_; refine zb ?_; refine AOps.eql rfl rfl rfl rfl rfl ?_; refine zd ?_; refine zk ?_; refine AW.skip ?_; refine thenD_n ?_; refine zo ?_; refine zq ?_; refine nz ?_; refine AOps.fieldAddrN 82 0 0 rfl rfl rfl rfl ?_; refine zb ?_; refine AOps.eql rfl rfl rfl rfl rfl ?_; refine zd ?_; refine zk ?_; refine AW.skip ?_; refine thenD_n ?_; refine AW.region ?_; refine nz ?_; refine AOps.move_own rfl rfl rfl ?_; refine zm ?_; refine AOps.bs1 rfl rfl rfl rfl rfl rfl rfl rfl ?_; refine nz ?_; (with_reducible apply AOps.appendS); exact rfl; (first | exact .pv rfl | exact .own rfl | exact .nil rfl); (iterate 9 exact rfl); (first | omega | (simp only [List.length_map, List.length_append, List.length_cons, List.length_nil, List.length_drop, List.length_take, List.length_set, chunk_len]; omega)); refine nz ?_; refine AOps.assign_own rfl rfl rfl ?_; refine AOps.nil ?_; refine inBlockD_n ?_; refine thenD_n ?_; refine AW.region ?_; refine nz ?_; refine zm ?_; refine zj ?_; refine za ?_; refine zd ?_)
      exact ⟨i + 1, by omega, by omega, weak rfl (by (refine ⟨.intE (by first | with_reducible rfl | (first | rfl | (rw [hdt, List.map_append]; rfl))), ?_⟩; refine ⟨.ownE (by first | with_reducible rfl | (first | rfl | (rw [hdt, List.map_append]; rfl))) rfl, ?_⟩; refine ⟨.boolE (by first | with_reducible rfl | (first | rfl | (rw [hdt, List.map_append]; rfl))), ?_⟩; refine ⟨.eq rfl rfl, ?_⟩; refine ⟨.pvE (by first | with_reducible rfl | (first | rfl | (rw [hdt, List.map_append]; rfl))), ?_⟩; refine ⟨.intE (by first | with_reducible rfl | (first | rfl | (rw [hdt, List.map_append]; rfl))), ?_⟩; exact trivial)) (by (refine ⟨.row rfl, ?_⟩; refine ⟨.box _ rfl ?_, ?_⟩; refine ⟨.pvE (by first | with_reducible rfl | (first | rfl | (rw [hdt, List.map_append]; rfl))), ?_⟩; (iterate 2 exact trivial))) rfl⟩
    · have n2 : ¬ gs[i].k = 2 := by omega
      have e : gateV vals d gs[i] = inV vals gs[i].a := by unfold gateV; rw [if_pos k1]
      rw [e] at hdt
      by_cases hle : gs[i].a ≤ (vals.length : Int)
      · rw [inV_at a1 hle] at hdt
        (refine zo ?_; refine zq ?_; (iterate 2 refine zm ?_); refine AOps.quoE rfl rfl rfl rfl rfl (by omega) ?_; refine AOps.leq rfl rfl rfl rfl rfl ?_; refine zd ?_; refine zc ?_; refine AW.skip ?_; refine thenD_n ?_; refine zo ?_; refine AW.block ?_; refine zq ?_; refine nz ?_; refine AOps.fieldAddrN 31 0 0 rfl rfl rfl rfl ?_; refine zb ?_; refine zm ?_; (focus ((with_reducible apply AOps.index_map); (iterate 7 exact rfl); rotate_left; omega)); refine AOps.load_rn rfl rfl rfl rfl ?_; refine nz ?_; refine AOps.allocN' rfl rfl rfl rfl ?_; refine nz ?_; refine zB ?_; refine nz ?_; refine zd ?_; refine zq ?_; refine za ?_; refine zd ?_; refine zo ?_; refine zq ?_; refine nz ?_; refine AOps.fieldAddrN 82 0 0 rfl rfl rfl rfl ?_; refine zb ?_; refine AOps.eql rfl rfl rfl rfl rfl ?_; refine zd ?_; refine zc ?_; refine AW.region ?_; refine nz ?_; refine AOps.fieldAddrN 82 1 1 rfl rfl rfl rfl ?_; refine zb ?_; refine zm ?_; refine zn ?_; refine AOps.leq rfl rfl rfl rfl rfl ?_; refine zm ?_; refine zt ?_; refine zm ?_; refine zt ?_; refine AOps.fieldAddrN 82 1 1 rfl rfl rfl rfl ?_; refine zt ?_; refine zb ?_; refine zt ?_; refine AOps.sub rfl rfl rfl rfl rfl (by omega) ?_; refine zt ?_; (focus ((with_reducible apply AOps.index_mapI); (iterate 7 exact rfl); omega; rotate_left; (first | omega | exact Nat.zero_lt_one | exact (by simp)))); refine zt ?_; refine zr ?_; refine zT ?_; refine za ?_; refine zd ?_; refine zo ?_; refine zq ?_; refine nz ?_; refine AOps.fieldAddrN 82 0 0 rfl rfl rfl rfl ?_; refine zb ?_; refine AOps.eql rfl rfl rfl rfl rfl ?_; refine zd ?_; refine zk ?_; refine AW.skip ?_; refine thenD_n ?_; refine AW.region ?_; refine nz ?_; refine AOps.move_own rfl rfl rfl ?_; refine zm ?_; refine AOps.bs1 rfl rfl rfl rfl rfl rfl rfl rfl ?_; refine nz ?_; (with_reducible apply AOps.appendS); exact rfl; (first | exact .pv rfl | exact .own rfl | exact .nil rfl); (iterate 9 exact rfl); (first | omega | (simp only [List.length_map, List.length_append, List.length_cons, List.length_nil, List.length_drop, List.length_take, List.length_set, chunk_len]; omega)); refine nz ?_; refine AOps.assign_own rfl rfl rfl ?_; refine AOps.nil ?_; refine inBlockD_n ?_; refine thenD_n ?_; refine AW.region ?_; refine nz ?_; refine zm ?_; refine zj ?_; refine za ?_; refine zd ?_)
        exact ⟨i + 1, by omega, by omega, weak rfl (by (refine ⟨.intE (by first | with_reducible rfl | (first | rfl | (rw [hdt, List.map_append]; rfl))), ?_⟩; refine ⟨.ownE (by first | with_reducible rfl | (first | rfl | (rw [hdt, List.map_append]; rfl))) rfl, ?_⟩; refine ⟨.boolE (by first | with_reducible rfl | (first | rfl | (rw [hdt, List.map_append]; rfl))), ?_⟩; refine ⟨.eq rfl rfl, ?_⟩; refine ⟨.pvE (by first | with_reducible rfl | (first | rfl | (rw [hdt, List.map_append]; rfl))), ?_⟩; refine ⟨.intE (by first | with_reducible rfl | (first | rfl | (rw [hdt, List.map_append]; rfl))), ?_⟩; exact trivial)) (by (refine ⟨.row rfl, ?_⟩; refine ⟨.box _ rfl ?_, ?_⟩; refine ⟨.pvE (by first | with_reducible rfl | (first | rfl | (rw [hdt, List.map_append]; rfl))), ?_⟩; (iterate 2 exact trivial))) rfl⟩
      · rw [inV_out a1 hle] at hdt
        (refine zo ?_; refine zq ?_; (iterate 2 refine zm ?_); refine AOps.quoE rfl rfl rfl rfl rfl (by omega) ?_; refine AOps.leq rfl rfl rfl rfl rfl ?_; refine zd ?_; refine zc ?_; refine AW.skip ?_; refine thenD_n ?_; refine zo ?_; refine AW.block ?_; refine zq ?_; refine nz ?_; refine AOps.fieldAddrN 31 0 0 rfl rfl rfl rfl ?_; refine zb ?_; refine zm ?_; (focus ((with_reducible apply AOps.index_map); (iterate 7 exact rfl); rotate_left; omega)); refine AOps.load_rn rfl rfl rfl rfl ?_; refine nz ?_; refine AOps.allocN' rfl rfl rfl rfl ?_; refine nz ?_; refine zB ?_; refine nz ?_; refine zd ?_; refine zq ?_; refine za ?_; refine zd ?_; refine zo ?_; refine zq ?_; refine nz ?_; refine AOps.fieldAddrN 82 0 0 rfl rfl rfl rfl ?_; refine zb ?_; refine AOps.eql rfl rfl rfl rfl rfl ?_; refine zd ?_; refine zc ?_; refine AW.region ?_; refine nz ?_; refine AOps.fieldAddrN 82 1 1 rfl rfl rfl rfl ?_; refine zb ?_; refine zm ?_; refine zn ?_; refine AOps.leq rfl rfl rfl rfl rfl ?_; refine zm ?_; (iterate 6 refine AOps.guardTn rfl rfl rfl rfl rfl rfl (by with_reducible assumption) ?_); refine zF ?_; refine za ?_; refine zd ?_; refine zo ?_; refine zq ?_; refine nz ?_; refine AOps.fieldAddrN 82 0 0 rfl rfl rfl rfl ?_; refine zb ?_; refine AOps.eql rfl rfl rfl rfl rfl ?_; refine zd ?_; refine zk ?_; refine AW.skip ?_; refine thenD_n ?_; refine AW.region ?_; refine nz ?_; refine AOps.move_own rfl rfl rfl ?_; refine zm ?_; refine AOps.bs1 rfl rfl rfl rfl rfl rfl rfl rfl ?_; refine nz ?_; (with_reducible apply AOps.appendS); exact rfl; (first | exact .pv rfl | exact .own rfl | exact .nil rfl); (iterate 9 exact rfl); (first | omega | (simp only [List.length_map, List.length_append, List.length_cons, List.length_nil, List.length_drop, List.length_take, List.length_set, chunk_len]; omega)); refine nz ?_; refine AOps.assign_own rfl rfl rfl ?_; refine AOps.nil ?_; refine inBlockD_n ?_; refine thenD_n ?_; refine AW.region ?_; refine nz ?_; refine zm ?_; refine zj ?_; refine za ?_; refine zd ?_)
        exact ⟨i + 1, by omega, by omega, weak rfl (by (refine ⟨.intE (by first | with_reducible rfl | (first | rfl | (rw [hdt, List.map_append]; rfl))), ?_⟩; refine ⟨.ownE (by first | with_reducible rfl | (first | rfl | (rw [hdt, List.map_append]; rfl))) rfl, ?_⟩; refine ⟨.boolE (by first | with_reducible rfl | (first | rfl | (rw [hdt, List.map_append]; rfl))), ?_⟩; refine ⟨.eq rfl rfl, ?_⟩; refine ⟨.pvE (by first | with_reducible rfl | (first | rfl | (rw [hdt, List.map_append]; rfl))), ?_⟩; refine ⟨.intE (by first | with_reducible rfl | (first | rfl | (rw [hdt, List.map_append]; rfl))), ?_⟩; exact trivial)) (by (refine ⟨.row rfl, ?_⟩; refine ⟨.box _ rfl ?_, ?_⟩; refine ⟨.pvE (by first | with_reducible rfl | (first | rfl | (rw [hdt, List.map_append]; rfl))), ?_⟩; (iterate 2 exact trivial))) rfl⟩
    · have n1 : ¬ gs[i].k = 1 := by omega
      have e : gateV vals d gs[i] = (refV d gs[i].a && refV d gs[i].b) := by unfold gateV; rw [if_neg n1, if_pos k2]
      rw [e, refV_at (r := gs[i].a) (by omega) (by omega), refV_at (r := gs[i].b) (by omega) (by omega)] at hdt
      by_cases c1 : d[(gs[i].a / 2).toNat]'(by omega) = decide (gs[i].a % 2 = 0)
      · rw [decide_eq_true c1, Bool.true_and] at hdt
        have c1' := decide_eq_true c1
        (refine zo ?_; refine zq ?_; (iterate 2 refine zm ?_); refine AOps.quoE rfl rfl rfl rfl rfl (by omega) ?_; refine AOps.leq rfl rfl rfl rfl rfl ?_; refine zd ?_; refine zc ?_; refine AW.skip ?_; refine thenD_n ?_; refine zo ?_; refine AW.block ?_; refine zq ?_; refine nz ?_; refine AOps.fieldAddrN 31 0 0 rfl rfl rfl rfl ?_; refine zb ?_; refine zm ?_; (focus ((with_reducible apply AOps.index_map); (iterate 7 exact rfl); rotate_left; omega)); refine AOps.load_rn rfl rfl rfl rfl ?_; refine nz ?_; refine AOps.allocN' rfl rfl rfl rfl ?_; refine nz ?_; refine zB ?_; refine nz ?_; refine zd ?_; refine zq ?_; refine za ?_; refine zd ?_; refine zo ?_; refine zq ?_; refine nz ?_; refine AOps.fieldAddrN 82 0 0 rfl rfl rfl rfl ?_; refine zb ?_; refine AOps.eql rfl rfl rfl rfl rfl ?_; refine zd ?_; refine zk ?_; refine AW.skip ?_; refine thenD_n ?_; refine zo ?_; refine zq ?_; refine nz ?_; refine AOps.fieldAddrN 82 0 0 rfl rfl rfl rfl ?_; refine zb ?_; refine AOps.eql rfl rfl rfl rfl rfl ?_; refine zd ?_; refine zc ?_; refine zo ?_; (with_reducible apply AW.regionQ); exact rfl; exact rfl; kernel_rfl; (with_reducible assumption); refine AOps.move_own rfl rfl rfl ?_; refine AOps.fieldAddrN 82 1 1 rfl rfl rfl rfl ?_; refine zb ?_; refine AOps.quoE rfl rfl rfl rfl rfl (by omega) ?_; refine AOps.index_own_mapI rfl rfl rfl rfl rfl rfl rfl (by omega) (by omega) ?_; (focus ((with_reducible apply AOps.load_o1_mapI); (iterate 4 exact rfl); exact (fun h_ => by cases h_); rotate_left; (first | omega | exact Nat.zero_lt_one | exact (by simp)))); refine AOps.fieldAddrN 82 1 1 rfl rfl rfl rfl ?_; refine zb ?_; refine AOps.remE rfl rfl rfl rfl rfl (by omega) ?_; refine AOps.eql rfl rfl rfl rfl rfl ?_; refine AOps.eqlB rfl rfl rfl rfl rfl rfl ?_; refine za ?_; refine zd ?_; refine zo ?_; (with_reducible apply AW.regionQ); exact rfl; exact rfl; kernel_rfl; (with_reducible assumption); refine AOps.move_own rfl rfl rfl ?_; refine AOps.fieldAddrN 82 2 2 rfl rfl rfl rfl ?_; refine zb ?_; refine AOps.quoE rfl rfl rfl rfl rfl (by omega) ?_; refine AOps.index_own_mapI rfl rfl rfl rfl rfl rfl rfl (by omega) (by omega) ?_; (focus ((with_reducible apply AOps.load_o1_mapI); (iterate 4 exact rfl); exact (fun h_ => by cases h_); rotate_left; (first | omega | exact Nat.zero_lt_one | exact (by simp)))); refine AOps.fieldAddrN 82 2 2 rfl rfl rfl rfl ?_; refine zb ?_; refine AOps.remE rfl rfl rfl rfl rfl (by omega) ?_; refine AOps.eql rfl rfl rfl rfl rfl ?_; refine AOps.eqlB rfl rfl rfl rfl rfl rfl ?_; refine za ?_; refine zd ?_; refine AW.region ?_; refine nz ?_; (iterate 2 refine zm ?_); refine zt ?_; refine zm ?_; refine zT ?_; refine za ?_; refine zd ?_; refine AW.region ?_; refine nz ?_; refine AOps.move_own rfl rfl rfl ?_; refine zm ?_; refine AOps.bs1 rfl rfl rfl rfl rfl rfl rfl rfl ?_; refine nz ?_; (with_reducible apply AOps.appendS); exact rfl; (first | exact .pv rfl | exact .own rfl | exact .nil rfl); (iterate 9 exact rfl); (first | omega | (simp only [List.length_map, List.length_append, List.length_cons, List.length_nil, List.length_drop, List.length_take, List.length_set, chunk_len]; omega)); refine nz ?_; refine AOps.assign_own rfl rfl rfl ?_; refine AOps.nil ?_; refine inBlockD_n ?_; refine thenD_n ?_; refine AW.region ?_; refine nz ?_; refine zm ?_; refine zj ?_; refine za ?_; refine zd ?_)
        exact ⟨i + 1, by omega, by omega, weak rfl (by (refine ⟨.intE (by first | with_reducible rfl | (first | rfl | (rw [hdt, List.map_append]; rfl))), ?_⟩; refine ⟨.ownE (by first | with_reducible rfl | (first | rfl | (rw [hdt, List.map_append]; rfl))) rfl, ?_⟩; refine ⟨.boolE (by first | with_reducible rfl | (first | rfl | (rw [hdt, List.map_append]; rfl))), ?_⟩; refine ⟨.eq rfl rfl, ?_⟩; refine ⟨.pvE (by first | with_reducible rfl | (first | rfl | (rw [hdt, List.map_append]; rfl))), ?_⟩; refine ⟨.intE (by first | with_reducible rfl | (first | rfl | (rw [hdt, List.map_append]; rfl))), ?_⟩; exact trivial)) (by (refine ⟨.row rfl, ?_⟩; refine ⟨.box _ rfl ?_, ?_⟩; refine ⟨.pvE (by first | with_reducible rfl | (first | rfl | (rw [hdt, List.map_append]; rfl))), ?_⟩; (iterate 2 exact trivial))) rfl⟩
      · rw [decide_eq_false c1, Bool.false_and] at hdt
        have c1' := decide_eq_false c1
        (refine zo ?_; refine zq ?_; (iterate 2 refine zm ?_); refine AOps.quoE rfl rfl rfl rfl rfl (by omega) ?_; refine AOps.leq rfl rfl rfl rfl rfl ?_; refine zd ?_; refine zc ?_; refine AW.skip ?_; refine thenD_n ?_; refine zo ?_; refine AW.block ?_; refine zq ?_; refine nz ?_; refine AOps.fieldAddrN 31 0 0 rfl rfl rfl rfl ?_; refine zb ?_; refine zm ?_; (focus ((with_reducible apply AOps.index_map); (iterate 7 exact rfl); rotate_left; omega)); refine AOps.load_rn rfl rfl rfl rfl ?_; refine nz ?_; refine AOps.allocN' rfl rfl rfl rfl ?_; refine nz ?_; refine zB ?_; refine nz ?_; refine zd ?_; refine zq ?_; refine za ?_; refine zd ?_; refine zo ?_; refine zq ?_; refine nz ?_; refine AOps.fieldAddrN 82 0 0 rfl rfl rfl rfl ?_; refine zb ?_; refine AOps.eql rfl rfl rfl rfl rfl ?_; refine zd ?_; refine zk ?_; refine AW.skip ?_; refine thenD_n ?_; refine zo ?_; refine zq ?_; refine nz ?_; refine AOps.fieldAddrN 82 0 0 rfl rfl rfl rfl ?_; refine zb ?_; refine AOps.eql rfl rfl rfl rfl rfl ?_; refine zd ?_; refine zc ?_; refine zo ?_; (with_reducible apply AW.regionQ); exact rfl; exact rfl; kernel_rfl; (with_reducible assumption); refine AOps.move_own rfl rfl rfl ?_; refine AOps.fieldAddrN 82 1 1 rfl rfl rfl rfl ?_; refine zb ?_; refine AOps.quoE rfl rfl rfl rfl rfl (by omega) ?_; refine AOps.index_own_mapI rfl rfl rfl rfl rfl rfl rfl (by omega) (by omega) ?_; (focus ((with_reducible apply AOps.load_o1_mapI); (iterate 4 exact rfl); exact (fun h_ => by cases h_); rotate_left; (first | omega | exact Nat.zero_lt_one | exact (by simp)))); refine AOps.fieldAddrN 82 1 1 rfl rfl rfl rfl ?_; refine zb ?_; refine AOps.remE rfl rfl rfl rfl rfl (by omega) ?_; refine AOps.eql rfl rfl rfl rfl rfl ?_; refine AOps.eqlB rfl rfl rfl rfl rfl rfl ?_; refine za ?_; refine zd ?_; refine zo ?_; (with_reducible apply AW.regionQ); exact rfl; exact rfl; kernel_rfl; (with_reducible assumption); refine AOps.move_own rfl rfl rfl ?_; refine AOps.fieldAddrN 82 2 2 rfl rfl rfl rfl ?_; refine zb ?_; refine AOps.quoE rfl rfl rfl rfl rfl (by omega) ?_; refine AOps.index_own_mapI rfl rfl rfl rfl rfl rfl rfl (by omega) (by omega) ?_; (focus ((with_reducible apply AOps.load_o1_mapI); (iterate 4 exact rfl); exact (fun h_ => by cases h_); rotate_left; (first | omega | exact Nat.zero_lt_one | exact (by simp)))); refine AOps.fieldAddrN 82 2 2 rfl rfl rfl rfl ?_; refine zb ?_; refine AOps.remE rfl rfl rfl rfl rfl (by omega) ?_; refine AOps.eql rfl rfl rfl rfl rfl ?_; refine AOps.eqlB rfl rfl rfl rfl rfl rfl ?_; refine za ?_; refine zd ?_; refine AW.region ?_; refine nz ?_; (iterate 2 refine zm ?_); refine AOps.guardTn rfl rfl rfl rfl rfl rfl (by with_reducible assumption) ?_; refine zF ?_; refine za ?_; refine zd ?_; refine AW.region ?_; refine nz ?_; refine AOps.move_own rfl rfl rfl ?_; refine zm ?_; refine AOps.bs1 rfl rfl rfl rfl rfl rfl rfl rfl ?_; refine nz ?_; (with_reducible apply AOps.appendS); exact rfl; (first | exact .pv rfl | exact .own rfl | exact .nil rfl); (iterate 9 exact rfl); (first | omega | (simp only [List.length_map, List.length_append, List.length_cons, List.length_nil, List.length_drop, List.length_take, List.length_set, chunk_len]; omega)); refine nz ?_; refine AOps.assign_own rfl rfl rfl ?_; refine AOps.nil ?_; refine inBlockD_n ?_; refine thenD_n ?_; refine AW.region ?_; refine nz ?_; refine zm ?_; refine zj ?_; refine za ?_; refine zd ?_)
        exact ⟨i + 1, by omega, by omega, weak rfl (by (refine ⟨.intE (by first | with_reducible rfl | (first | rfl | (rw [hdt, List.map_append]; rfl))), ?_⟩; refine ⟨.ownE (by first | with_reducible rfl | (first | rfl | (rw [hdt, List.map_append]; rfl))) rfl, ?_⟩; refine ⟨.boolE (by first | with_reducible rfl | (first | rfl | (rw [hdt, List.map_append]; rfl))), ?_⟩; refine ⟨.eq rfl rfl, ?_⟩; refine ⟨.pvE (by first | with_reducible rfl | (first | rfl | (rw [hdt, List.map_append]; rfl))), ?_⟩; refine ⟨.intE (by first | with_reducible rfl | (first | rfl | (rw [hdt, List.map_append]; rfl))), ?_⟩; exact trivial)) (by (refine ⟨.row rfl, ?_⟩; refine ⟨.box _ rfl ?_, ?_⟩; refine ⟨.pvE (by first | with_reducible rfl | (first | rfl | (rw [hdt, List.map_append]; rfl))), ?_⟩; (iterate 2 exact trivial))) rfl⟩
  · have he : i = (r / 2).toNat + 1 := by omega
    have hi2 : ¬ (i : Int) ≤ r / 2 := by omega
    obtain ⟨d, hd⟩ : ∃ d, d = doneG gs vals i := ⟨_, rfl⟩
    obtain ⟨hd2, hev⟩ := evalG_done gs vals (r := r) (by omega) (d := d) (by rw [hd, he])
    rw [hev, ← hd]
    rw [← hd] at hdl
    clear hev hd
    (refine zo ?_; refine zq ?_; (iterate 2 refine zm ?_); refine AOps.quoE rfl rfl rfl rfl rfl (by omega) ?_; refine AOps.leq rfl rfl rfl rfl rfl ?_; refine zd ?_; refine zk ?_; refine AW.exit ?_; (iterate 2 refine thenD_exit ?_); refine inBlockD_exit ?_; refine thenD_n ?_; refine zq ?_; refine nz ?_; refine AOps.move_own rfl rfl rfl ?_; refine zm ?_; refine AOps.quoE rfl rfl rfl rfl rfl (by omega) ?_; refine AOps.index_own_mapI rfl rfl rfl rfl rfl rfl rfl (by omega) (by omega) ?_; (focus ((with_reducible apply AOps.load_o1_mapI); (iterate 4 exact rfl); exact (fun h_ => by cases h_); rotate_left; (first | omega | exact Nat.zero_lt_one | exact (by simp)))); refine zm ?_; refine AOps.remE rfl rfl rfl rfl rfl (by omega) ?_; refine AOps.eql rfl rfl rfl rfl rfl ?_; refine AOps.eqlB rfl rfl rfl rfl rfl rfl ?_; refine za ?_; refine zd ?_; refine AW.ret ?_)
    (apply ends_ret; (exact Res.one (.tmp rfl rfl)); (refine Le.litB ?_; (rfl)))
end Go.Ab
/- Chapter 24: Leader, walked. -/
namespace Go.Ab
open Go Go.Proofs
open Nat (reduceAdd reduceSub)
set_option maxRecDepth 20000
set_option maxHeartbeats 4000000
theorem ng_dropA {f g : Int → Bool} {o : List Int} {k : Nat} (h : k < o.length) : ngF f g (o.drop k) = if f o[k] = g o[k] then ngF f g (o.drop (k + 1)) else g o[k] := by
  rw [List.drop_eq_getElem_cons h]; rfl
def leadK (vals : List Bool) (perm : List Int) (k : Nat) : Bool := ngF (inV vals) (inV (imgM vals perm)) ((ordM perm.length).drop k)
theorem leadK_zero (vals : List Bool) (perm : List Int) : leadK vals perm 0 = leadP vals perm := rfl
theorem leadK_end (vals : List Bool) (perm : List Int) : leadK vals perm perm.length = true := by
  unfold leadK
  rw [List.drop_eq_nil_of_le (by rw [ord_len]; omega)]; rfl
theorem leadK_step (vals : List Bool) {perm : List Int} {k : Nat} (hk : k < perm.length) (hi : k < (invM perm).length) : leadK vals perm k = if inV vals ((k : Int) + 1) = inV vals (invM perm)[k] then leadK vals perm (k + 1) else inV vals (invM perm)[k] := by
  have hl : k < (ordM perm.length).length := by rw [ord_len]; exact hk
  unfold leadK
  rw [ng_dropA hl, ord_at hl, img_at _ (by omega)]
  have e := inv_at (perm := perm) (w := (k : Int) + 1) (by omega) (by rw [inv_len]; omega)
  have e2 : (invM perm)[((k : Int) + 1 - 1).toNat]'(by rw [inv_len]; omega) = (invM perm)[k] := by
    congr 1
    omega
  rw [← e, e2]
attribute [local irreducible] AW AOps thenD inBlockD AR iterEnds roundEndsN inlEnds noGotoD EndsX invM leadK inV
theorem pValue_fn (vals : List Bool) (v : Int) (h1 : 1 ≤ v) (h2 : v ≤ 1000000) : Fn Try.prog 43 [litI v, .rptr [bools vals]] (litB (inV vals v)) := by
  by_cases h : v ≤ (vals.length : Int)
  · rw [inV_at h1 h]
    refine Fn.enter (n := 15) Try.func43 rfl rfl rfl rfl rfl (by decide) fun g hro_ hwt_ => ?_; (try refine nz ?_)
    (refine zq ?_; refine za ?_; refine zd ?_; refine zq ?_; refine nz ?_; refine zm ?_; refine zr ?_; refine zn ?_; refine AOps.leq rfl rfl rfl rfl rfl ?_; refine zm ?_; refine zt ?_; refine zr ?_; refine zt ?_; refine zm ?_; refine zt ?_; refine AOps.sub rfl rfl rfl rfl rfl (by omega) ?_; refine zt ?_; (focus ((with_reducible apply AOps.index_mapI); (iterate 7 exact rfl); omega; rotate_left; (first | omega | exact Nat.zero_lt_one | exact (by simp)))); refine zt ?_; refine zr ?_; refine zT ?_; refine za ?_; refine zd ?_; refine AW.ret ?_)
    (apply ends_ret; (exact Res.one (.tmp rfl rfl)); (refine Le.litB ?_; (rfl)))
  · rw [inV_out h1 h]
    refine Fn.enter (n := 15) Try.func43 rfl rfl rfl rfl rfl (by decide) fun g hro_ hwt_ => ?_; (try refine nz ?_)
    (refine zq ?_; refine za ?_; refine zd ?_; refine zq ?_; refine nz ?_; refine zm ?_; refine zr ?_; refine zn ?_; refine AOps.leq rfl rfl rfl rfl rfl ?_; refine zm ?_; (iterate 5 refine AOps.guardTn rfl rfl rfl rfl rfl rfl (by with_reducible assumption) ?_); refine zF ?_; refine za ?_; refine zd ?_; refine AW.ret ?_)
    (apply ends_ret; (exact Res.one (.tmp rfl rfl)); (refine Le.litB ?_; (rfl)))
abbrev lO (vals : List Bool) : List (Nat × Option Ob) := [(0, some (.box [.pv (bools vals)])), (1, some (.box [.clo (.func 43) [] [.ptr 0 0]]))]
theorem pGreater_fn (vals : List Bool) (perm : List Int) (hp : PermOk perm) (hl : perm.length ≤ 100000) : FnX Try.prog 45 2 (lO vals) [.pv (ints perm), .ptr 1 0] (lO vals) (litB (!leadP vals perm)) := by
  have hiv := inverse_fn perm hp hl
  have hil := inv_len perm
  simp only [lO]
  rw [← leadK_zero]
  refine FnX.enter (n := 28) Try.func45 rfl rfl rfl rfl rfl (by decide) rfl rfl fun g hro_ hwt_ => ?_; (conv => rhs; simp only [Nf.en0, Nf.en1, Nf.pi0, Nf.pir, Nf.pib, Nf.pim, Nf.cn, Nf.nn, Nat.reduceAdd, Nat.zero_add])
  (refine zq ?_; refine za ?_; refine zd ?_; refine zo ?_; refine zq ?_; refine nz ?_; refine zm ?_; refine zP (hiv) ?_; refine zn ?_; refine zm ?_; refine zd ?_; refine AW.block ?_)
  (refine nz ?_; apply AW.loopR [10, 9, 1, 1000] [0, 1] (fun k : Nat => ([(11, litI k)] : List (Nat × AV))) (fun k : Nat => ([] : List (Nat × Option Ob))) (fun k : Nat => k ≤ perm.length ∧ leadK vals perm 0 = leadK vals perm k) (fun k : Nat => perm.length - k) (0); (conv => lhs; simp only [Nf.lpR, Nf.all, Nat.reduceBEq, reduceAdd, reduceSub]); (all_goals skip))
  · exact ⟨Nat.zero_le _, rfl⟩
  · exact weak rfl (by (refine ⟨.eq rfl rfl, ?_⟩; (iterate 4 refine ⟨.eq rfl rfl, ?_⟩); exact trivial)) (by (refine ⟨.box _ rfl ?_, ?_⟩; refine ⟨.eq rfl rfl, ?_⟩; exact trivial; refine ⟨.box _ rfl ?_, ?_⟩; refine ⟨.eq rfl rfl, ?_⟩; (iterate 2 exact trivial))) rfl
  rintro k ⟨hk, he⟩
  by_cases hlt : k < perm.length
  · have hli : k < (invM perm).length := by omega
    have hs := leadK_step vals hlt hli
    have hr := hp.back (w := (k : Int) + 1) (by omega)
    have e := inv_at (perm := perm) (w := (k : Int) + 1) (by omega) (by omega)
    have e2 : (invM perm)[((k : Int) + 1 - 1).toNat]'(by omega) = (invM perm)[k] := by
      congr 1
      omega
    rw [← e, e2] at hr
    clear e e2
    have v1 := pValue_fn vals ((k : Int) + 1) (by omega) (by omega)
    have v2 := pValue_fn vals (invM perm)[k] (by omega) (by omega)
    generalize inV vals ((k : Int) + 1) = x at hs v1
    generalize inV vals (invM perm)[k] = y at hs v2
    by_cases hxy : x = y
    · rw [if_pos hxy] at hs
      (refine zq ?_; refine zs ?_; refine zd ?_; refine zo ?_; refine zc ?_; refine AW.skip ?_; refine thenD_n ?_; refine zo ?_; refine AW.block ?_; refine zq ?_; refine nz ?_; refine zm ?_; (focus ((with_reducible apply AOps.index_map); (iterate 7 exact rfl); rotate_left; omega)); refine zr ?_; (iterate 2 refine za ?_); refine zd ?_; refine zo ?_; refine AW.regionM [0, 1, 2, 4, 5] [] rfl (by assumption) (by kernel_rfl) (by kernel_rfl) rfl ?_; show AOps .held _ _ _ [_, _, _, _, _] _ _; refine zb ?_; refine zm ?_; refine zj ?_; refine zb ?_; refine zm ?_; refine AOps.nil ?_; refine onlyN_n ?_; intro k_ hk_; refine nz ?_; refine AR.step1M (i := 3) rfl (by kernel_rfl) rfl ?_; intro g_ hgro_ hw_; refine zC (v1) ?_; refine AOps.nil ?_; refine onlyN_n ?_; refine AR.step1M (i := 6) rfl (by kernel_rfl) rfl ?_; intro g_ hgro_ hw_; refine zC (v2) ?_; refine AOps.nil ?_; refine onlyN_n ?_; refine AR.readsM [7, 8] (by kernel_rfl) (by kernel_rfl) (by kernel_rfl) (by kernel_rfl) ?_; intro g_ hgro_; show AOps .held _ _ _ [_, _] _ _; (iterate 2 refine za ?_); refine AOps.nil ?_; refine onlyN_n ?_; intro k_ hk_; refine nz ?_; refine AR.doneM (by assumption) (by kernel_rfl) ?_; refine thenD_n ?_; refine zq ?_; (iterate 2 refine zm ?_); refine AOps.neqB rfl rfl rfl rfl rfl rfl ?_; refine zd ?_; (focus ((with_reducible apply AW.condD); exact rfl; exact rfl; all_goals intro hc_)); refine zq ?_; refine nz ?_; refine zm ?_; refine za ?_; refine zd ?_; refine AW.ret ?_; refine inBlockD_ret ?_; (iterate 2 refine thenD_ret ?_); refine inBlockD_ret ?_; refine thenD_ret ?_; (all_goals skip); rotate_left; refine AW.skip ?_; refine inBlockD_n ?_; refine thenD_n ?_; refine AW.region ?_; refine nz ?_; refine zj ?_; refine zm ?_; refine zd ?_; (all_goals skip); rotate_left)
      · exact absurd hxy hc_
      exact ⟨k + 1, ⟨by omega, he.trans hs⟩, by omega, weak rfl (by (refine ⟨.eq rfl rfl, ?_⟩; (iterate 4 refine ⟨.eq rfl rfl, ?_⟩); exact trivial)) (by (refine ⟨.box _ rfl ?_, ?_⟩; refine ⟨.eq rfl rfl, ?_⟩; exact trivial; refine ⟨.box _ rfl ?_, ?_⟩; refine ⟨.eq rfl rfl, ?_⟩; (iterate 2 exact trivial))) rfl⟩
    · rw [if_neg hxy] at hs
      rw [he, hs]
      have hy : (!y) = x := by cases x <;> cases y <;> simp_all
      rw [hy]
      (refine zq ?_; refine zs ?_; refine zd ?_; refine zo ?_; refine zc ?_; refine AW.skip ?_; refine thenD_n ?_; refine zo ?_; refine AW.block ?_; refine zq ?_; refine nz ?_; refine zm ?_; (focus ((with_reducible apply AOps.index_map); (iterate 7 exact rfl); rotate_left; omega)); refine zr ?_; (iterate 2 refine za ?_); refine zd ?_; refine zo ?_; refine AW.regionM [0, 1, 2, 4, 5] [] rfl (by assumption) (by kernel_rfl) (by kernel_rfl) rfl ?_; show AOps .held _ _ _ [_, _, _, _, _] _ _; refine zb ?_; refine zm ?_; refine zj ?_; refine zb ?_; refine zm ?_; refine AOps.nil ?_; refine onlyN_n ?_; intro k_ hk_; refine nz ?_; refine AR.step1M (i := 3) rfl (by kernel_rfl) rfl ?_; intro g_ hgro_ hw_; refine zC (v1) ?_; refine AOps.nil ?_; refine onlyN_n ?_; refine AR.step1M (i := 6) rfl (by kernel_rfl) rfl ?_; intro g_ hgro_ hw_; refine zC (v2) ?_; refine AOps.nil ?_; refine onlyN_n ?_; refine AR.readsM [7, 8] (by kernel_rfl) (by kernel_rfl) (by kernel_rfl) (by kernel_rfl) ?_; intro g_ hgro_; show AOps .held _ _ _ [_, _] _ _; (iterate 2 refine za ?_); refine AOps.nil ?_; refine onlyN_n ?_; intro k_ hk_; refine nz ?_; refine AR.doneM (by assumption) (by kernel_rfl) ?_; refine thenD_n ?_; refine zq ?_; (iterate 2 refine zm ?_); refine AOps.neqB rfl rfl rfl rfl rfl rfl ?_; refine zd ?_; refine zc ?_; refine zq ?_; refine nz ?_; refine zm ?_; refine za ?_; refine zd ?_; refine AW.ret ?_; refine inBlockD_ret ?_; (iterate 2 refine thenD_ret ?_); refine inBlockD_ret ?_; refine thenD_ret ?_)
      (apply endsX_ret; ((exact Res.one (.tmp rfl rfl))); ((refine ⟨.boolE (by first | with_reducible rfl | (rfl)), ?_⟩; refine ⟨.eq rfl rfl, ?_⟩; exact trivial)); ((refine ⟨.box _ rfl ?_, ?_⟩; refine ⟨.pvE (by first | with_reducible rfl | (rfl)), ?_⟩; exact trivial; refine ⟨.box _ rfl ?_, ?_⟩; refine ⟨.eq rfl rfl, ?_⟩; (iterate 2 exact trivial))); exact rfl)
  · obtain rfl : k = perm.length := by omega
    rw [he, leadK_end]
    (refine zq ?_; refine zs ?_; refine zd ?_; refine zo ?_; refine zk ?_; refine AW.exit ?_; (iterate 2 refine thenD_exit ?_); refine inBlockD_exit ?_; refine thenD_n ?_; refine zq ?_; refine nz ?_; refine za ?_; refine zd ?_; refine AW.ret ?_)
    (apply endsX_ret; ((exact Res.one (.tmp rfl rfl))); ((refine ⟨.boolE (by first | with_reducible rfl | (rfl)), ?_⟩; refine ⟨.eq rfl rfl, ?_⟩; exact trivial)); ((refine ⟨.box _ rfl ?_, ?_⟩; refine ⟨.pvE (by first | with_reducible rfl | (rfl)), ?_⟩; exact trivial; refine ⟨.box _ rfl ?_, ?_⟩; refine ⟨.eq rfl rfl, ?_⟩; (iterate 2 exact trivial))); exact rfl)
end Go.Ab
/- slices' functions that take functions. -/
namespace Go.Ab
open Go Go.Proofs
open Nat (reduceAdd reduceSub)
set_option maxRecDepth 20000
set_option maxHeartbeats 4000000
attribute [local irreducible] AW AOps thenD inBlockD AR iterEnds roundEndsN inlEnds noGotoD
end Go.Ab
/- Chapter 24: Leader over several permutations, walked. -/
namespace Go.Ab
open Go Go.Proofs
open Nat (reduceAdd reduceSub)
set_option maxRecDepth 20000
set_option maxHeartbeats 4000000
attribute [local irreducible] AW AOps thenD inBlockD AR iterEnds roundEndsN inlEnds noGotoD EndsX invM leadP inV
theorem leader_fn (vals : List Bool) (perms : List (List Int)) (hp : ∀ p ∈ perms, PermOk p ∧ p.length ≤ 100000) (hl : perms.length ≤ 100000) : Fn Try.prog 21 [.pv (bools vals), .pv (intss perms)] (litB (leadM vals perms)) := by
  have hg := fun p h => pGreater_fn vals p (hp p h).1 (hp p h).2
  simp only [lO] at hg
  refine Fn.enter (n := 11) Try.func21 rfl rfl rfl rfl rfl (by decide) fun g hro_ hwt_ => ?_; (try refine nz ?_)
  (refine zq ?_; refine AOps.box rfl rfl rfl rfl ?_; refine nz ?_; refine za ?_; refine zd ?_; refine zq ?_; refine nz ?_; refine AOps.makeFunc_c rfl rfl rfl ?_; refine AOps.allocN' rfl rfl rfl rfl ?_; refine nz ?_; refine AOps.store_b1 rfl rfl rfl rfl rfl rfl rfl rfl rfl (by with_reducible assumption) ?_; refine nz ?_; refine zd ?_; refine zq ?_; refine zm ?_; refine AOps.makeFunc_c rfl rfl rfl ?_; (with_reducible apply AOps.inline (hf := Try.func44)); (with_reducible assumption); (iterate 10 exact rfl); intro g_ hro_ hwt_; refine nz ?_; refine zq ?_; refine za ?_; refine zd ?_; refine zq ?_; refine nz ?_; refine zm ?_; refine AOps.move_clo rfl rfl rfl ?_; (with_reducible apply AOps.inline (hf := Try.func71)); (with_reducible assumption); (iterate 10 exact rfl); intro g_ hro_ hwt_; refine nz ?_; refine zq ?_; refine za ?_; refine zd ?_; refine zo ?_; refine zq ?_; refine nz ?_; refine zm ?_; refine zn ?_; refine zm ?_; refine zd ?_; refine AW.block ?_)
  (refine nz ?_; apply AW.loopR [7, 0, 1, 1006, 1005, 1004, 1000, 1001, 2008, 2007, 2005, 2004, 2001] [1, 0] (fun k : Nat => ([(8, litI k)] : List (Nat × AV))) (fun k : Nat => ([] : List (Nat × Option Ob))) (fun k : Nat => k ≤ perms.length ∧ leadM vals perms = (perms.drop k).all (leadP vals)) (fun k : Nat => perms.length - k) (0); (conv => lhs; simp only [Nf.lpR, Nf.all, Nat.reduceBEq, reduceAdd, reduceSub]); (all_goals skip))
  · exact ⟨Nat.zero_le _, rfl⟩
  · exact weak rfl (by (refine ⟨.eq rfl rfl, ?_⟩; (iterate 13 refine ⟨.eq rfl rfl, ?_⟩); exact trivial)) (by (refine ⟨.box _ rfl ?_, ?_⟩; refine ⟨.eq rfl rfl, ?_⟩; exact trivial; refine ⟨.box _ rfl ?_, ?_⟩; refine ⟨.eq rfl rfl, ?_⟩; (iterate 2 exact trivial))) rfl
  rintro k ⟨hk, he⟩
  by_cases hlt : k < perms.length
  · have hx := hg perms[k] (List.getElem_mem hlt)
    rw [List.drop_eq_getElem_cons hlt, List.all_cons] at he
    cases hb : leadP vals perms[k] with
    | true =>
      rw [hb] at hx he
      rw [Bool.true_and] at he
      simp only [Bool.not_true] at hx
      (refine zq ?_; refine zs ?_; refine zd ?_; refine zo ?_; refine zc ?_; refine AW.skip ?_; refine thenD_n ?_; refine zo ?_; refine AW.block ?_; refine zq ?_; refine nz ?_; refine zm ?_; refine za ?_; refine zd ?_; refine zq ?_; refine nz ?_; refine AOps.move_clo rfl rfl rfl ?_; (iterate 2 refine zm ?_); (focus ((with_reducible apply AOps.index_map); (iterate 7 exact rfl); rotate_left; omega)); refine zr ?_; refine zX (hx) ?_; refine nx ?_; refine nz ?_; refine zd ?_; refine AW.cond_lf rfl rfl ?_; refine AW.skip ?_; refine inBlockD_n ?_; refine thenD_n ?_; refine AW.region ?_; refine zj ?_; refine zm ?_; refine zd ?_)
      exact ⟨k + 1, ⟨by omega, he⟩, by omega, weak rfl (by (refine ⟨.eq rfl rfl, ?_⟩; (iterate 13 refine ⟨.eq rfl rfl, ?_⟩); exact trivial)) (by (refine ⟨.box _ rfl ?_, ?_⟩; refine ⟨.eq rfl rfl, ?_⟩; exact trivial; refine ⟨.box _ rfl ?_, ?_⟩; refine ⟨.eq rfl rfl, ?_⟩; (iterate 2 exact trivial))) rfl⟩
    | false =>
      rw [hb] at hx he
      rw [Bool.false_and] at he
      rw [he]
      simp only [Bool.not_false] at hx
      (refine zq ?_; refine zs ?_; refine zd ?_; refine zo ?_; refine zc ?_; refine AW.skip ?_; refine thenD_n ?_; refine zo ?_; refine AW.block ?_; refine zq ?_; refine nz ?_; refine zm ?_; refine za ?_; refine zd ?_; refine zq ?_; refine nz ?_; refine AOps.move_clo rfl rfl rfl ?_; (iterate 2 refine zm ?_); (focus ((with_reducible apply AOps.index_map); (iterate 7 exact rfl); rotate_left; omega)); refine zr ?_; refine zX (hx) ?_; refine nx ?_; refine nz ?_; refine zd ?_; refine AW.cond_lt rfl rfl ?_; refine zq ?_; refine zm ?_; refine za ?_; refine zd ?_; refine AW.ret ?_; refine inBlockD_ret ?_; (iterate 2 refine thenD_ret ?_); refine inBlockD_ret ?_; refine thenD_ret ?_; refine inlEnds_rpv rfl rfl ?_; refine nz ?_; refine AOps.geq rfl rfl rfl rfl rfl ?_; refine za ?_; refine zd ?_; refine AW.ret ?_; refine inlEnds_rpv rfl rfl ?_; refine nz ?_; refine AOps.notD rfl rfl rfl ?_; refine za ?_; refine zd ?_; refine AW.ret ?_)
      (apply ends_ret; (exact Res.one (.tmp rfl rfl)); (refine Le.litB ?_; (rfl)))
  · rw [List.drop_eq_nil_of_le (by omega)] at he
    rw [he]
    (refine zq ?_; refine zs ?_; refine zd ?_; refine zo ?_; refine zk ?_; refine AW.exit ?_; (iterate 2 refine thenD_exit ?_); refine inBlockD_exit ?_; refine thenD_n ?_; refine zq ?_; refine nz ?_; refine za ?_; refine zd ?_; refine AW.ret ?_; refine inlEnds_rpv rfl rfl ?_; refine nz ?_; refine AOps.geq rfl rfl rfl rfl rfl ?_; refine za ?_; refine zd ?_; refine AW.ret ?_; refine inlEnds_rpv rfl rfl ?_; refine nz ?_; refine AOps.notD rfl rfl rfl ?_; refine za ?_; refine zd ?_; refine AW.ret ?_)
    (apply ends_ret; (exact Res.one (.tmp rfl rfl)); (refine Le.litB ?_; (rfl)))
end Go.Ab
/- Chapter 24: the predicates of several permutations, in plain terms. -/
namespace Go.Ab
open Go Go.Proofs
set_option maxRecDepth 20000
set_option maxHeartbeats 4000000
def brkS (p : List GateM × Int) (l : List Int) : List GateM × Int := andG (predM p.1 l (ordM l.length)).1 p.2 (predM p.1 l (ordM l.length)).2
def brkM (gs : List GateM) (ls : List (List Int)) : List GateM × Int := ls.foldl brkS (gs, 0)
theorem brk_snoc (gs : List GateM) {ls : List (List Int)} {k : Nat} (h : k < ls.length) : brkM gs (ls.take (k + 1)) = brkS (brkM gs (ls.take k)) ls[k] := by
  unfold brkM
  rw [List.take_succ_eq_append_getElem h, List.foldl_append]; rfl
theorem ord_inc (n : Nat) : Inc (ordM n) := by
  unfold ordM Inc
  exact List.Pairwise.map _ (fun a b h => by omega) List.pairwise_lt_range
theorem sort_ord {n : Nat} {l : List Int} (h : PermN n l) : sortL l = ordM n := by
  have hp : (sortL l).Perm l := List.mergeSort_perm l _
  have hnd : (sortL l).Nodup := hp.nodup_iff.2 h.nodup
  have hle := sort_le l
  refine inc_ext (List.Pairwise.imp₂ (fun a b h1 h2 => ?_) hle hnd) (ord_inc n) fun x => ?_
  · exact Int.lt_iff_le_and_ne.2 ⟨h1, h2⟩
  · rw [sort_mem, ord_mem]
    exact ⟨fun hx => h.rng x hx, fun hx => h.ok.all (by rw [h.len]; exact hx)⟩
theorem pred_lead {gs : List GateM} {l : List Int} {n : Nat} (hc : CirOk gs) (hl : PermN n l) (hn : n ≤ 1000) (hg : gs.length + 6 * n < 18000) : Pred gs (6 * n) (predM gs l (ordM l.length)) (fun v => leadP v l) := by
  have h := pred_ok hc hl.ok (by rw [hl.len]; exact hn) (ordM l.length) (fun w hw => ord_mem.1 hw) (by rw [ord_len, hl.len]; exact hg)
  have e : 6 * (ordM l.length).length = 6 * n := by rw [ord_len, hl.len]
  rw [e] at h
  refine ⟨h.cir, h.ref, h.le, h.len, h.keep, fun v => ?_, h.nodup⟩
  rw [h.val v]
  unfold leadP
  exact ng_congr _ (fun w _ => rfl) fun w hw => (img_at v (ord_mem.1 hw)).symm
theorem brk_ok {gs : List GateM} (hc : CirOk gs) {ls : List (List Int)} {n : Nat} (hls : ∀ l ∈ ls, PermN n l) (hn : n ≤ 1000) (hg : gs.length + ls.length * (6 * n + 1) < 18000) : ∀ k, k ≤ ls.length → Pred gs (k * (6 * n + 1)) (brkM gs (ls.take k)) (fun v => leadM v (ls.take k))
  | 0, _ => ⟨hc, ⟨Int.le_refl _, by have := hc.pos; show (0 : Int) < 2 * (gs.length : Int); omega⟩, Nat.le_refl _, Nat.le_add_right _ _, fun v r _ => rfl, fun v => evalG_0 hc v, fun h => h⟩
  | k + 1, hk => by
    have ih := brk_ok hc hls hn hg k (by omega)
    have hlt : k < ls.length := by omega
    rw [brk_snoc gs hlt]
    have hle : (k + 1) * (6 * n + 1) ≤ ls.length * (6 * n + 1) := Nat.mul_le_mul_right _ hk
    rw [Nat.succ_mul] at hle
    obtain ⟨c0, r0, l0, m0, k0, v0, n0⟩ := ih
    have hp := pred_lead c0 (hls _ (List.getElem_mem hlt)) hn (by omega)
    unfold brkS
    generalize brkM gs (ls.take k) = p at c0 r0 l0 m0 k0 v0 n0 hp ⊢
    generalize predM p.1 ls[k] (ordM ls[k].length) = q at hp ⊢
    obtain ⟨c1, r1, l1, m1, k1, v1, n1⟩ := hp
    have ga := and_ok c1 (r0.mono l1) r1 (by omega)
    have va := and_ev c1 (r0.mono l1) r1 (by omega)
    have la := ga.le
    have ma := ga.len
    refine ⟨ga.cir, ga.ref, by omega, by rw [Nat.succ_mul]; omega, fun v r hr => ?_, fun v => ?_, fun h => and_nodup (n1 (n0 h))⟩
    · rw [va.keep v r ((hr.mono l0).mono l1), k1 v r (hr.mono l0), k0 v r hr]
    · rw [va.val v, k1 v _ r0, v0 v, v1 v]
      unfold leadM
      rw [List.take_succ_eq_append_getElem hlt, List.all_append]
      simp
end Go.Ab
/- Chapter 24: permutations of atoms, images of ranks, the group of symmetries, in plain terms. -/
namespace Go.Ab
open Go Go.Proofs
set_option maxRecDepth 20000
set_option maxHeartbeats 4000000
def imgR (n : Nat) (p : List Int) : Nat → Int → Int
  | 0, _ => 0
  | a + 1, t => p.getD (t % (n : Int)).toNat 0 + (n : Int) * imgR n p a (t / (n : Int))
structure PermA (n : Nat) (srt : Int → Int) (p : List Int) : Prop where
  len : p.length = n
  nodup : p.Nodup
  rng : ∀ x ∈ p, 0 ≤ x ∧ x < (n : Int)
  srt : ∀ (i : Nat) (h : i < p.length), srt p[i] = srt (i : Int)
theorem PermA.at {n : Nat} {srt : Int → Int} {p : List Int} (h : PermA n srt p) {i : Nat} (hi : i < n) : p.getD i 0 = p[i]'(by rw [h.len]; exact hi) := by
  rw [List.getD_eq_getElem?_getD, List.getElem?_eq_getElem (by rw [h.len]; exact hi)]; rfl
theorem PermA.lt {n : Nat} {srt : Int → Int} {p : List Int} (h : PermA n srt p) {i : Nat} (hi : i < n) : 0 ≤ p.getD i 0 ∧ p.getD i 0 < (n : Int) := by
  rw [h.at hi]; exact h.rng _ (List.getElem_mem _)
theorem PermA.inj {n : Nat} {srt : Int → Int} {p : List Int} (h : PermA n srt p) {i j : Nat} (hi : i < n) (hj : j < n) (e : p.getD i 0 = p.getD j 0) : i = j := by
  rw [h.at hi, h.at hj] at e
  exact (List.getElem_inj h.nodup).1 e
theorem mod_lt {n : Nat} (hn : 0 < n) (t : Int) : (t % (n : Int)).toNat < n := by
  have h1 := Int.emod_nonneg t (show (n : Int) ≠ 0 by omega)
  have h2 := Int.emod_lt_of_pos t (show 0 < (n : Int) by omega)
  omega
theorem pow_succ_cast (n a : Nat) : ((n ^ (a + 1) : Nat) : Int) = (n : Int) * ((n ^ a : Nat) : Int) := by
  rw [Nat.pow_succ, Nat.mul_comm]; exact Int.natCast_mul _ _
theorem div_rng {n a : Nat} (hn : 0 < n) {t : Int} (h : 0 ≤ t ∧ t < ((n ^ (a + 1) : Nat) : Int)) : 0 ≤ t / (n : Int) ∧ t / (n : Int) < ((n ^ a : Nat) : Int) := by
  rw [pow_succ_cast] at h
  exact ⟨Int.ediv_nonneg h.1 (by omega), Int.ediv_lt_of_lt_mul (by omega) (by rw [Int.mul_comm]; exact h.2)⟩
theorem add_mul_rng {n a : Nat} {d s : Int} (hd : 0 ≤ d ∧ d < (n : Int)) (hs : 0 ≤ s ∧ s < ((n ^ a : Nat) : Int)) : 0 ≤ d + (n : Int) * s ∧ d + (n : Int) * s < ((n ^ (a + 1) : Nat) : Int) := by
  rw [pow_succ_cast]
  have h1 : 0 ≤ (n : Int) * s := Int.mul_nonneg (by omega) hs.1
  have h2 : (n : Int) * (s + 1) ≤ (n : Int) * ((n ^ a : Nat) : Int) := Int.mul_le_mul_of_nonneg_left (by omega) (by omega)
  rw [Int.mul_add, Int.mul_one] at h2
  omega
theorem digit_mod {n : Nat} {d s : Int} (hd : 0 ≤ d ∧ d < (n : Int)) : (d + (n : Int) * s) % (n : Int) = d := by
  rw [Int.add_mul_emod_self_left, Int.emod_eq_of_lt hd.1 hd.2]
theorem digit_div {n : Nat} (hn : 0 < n) {d s : Int} (hd : 0 ≤ d ∧ d < (n : Int)) : (d + (n : Int) * s) / (n : Int) = s := by
  rw [Int.add_mul_ediv_left _ _ (by omega), Int.ediv_eq_zero_of_lt hd.1 hd.2, Int.zero_add]
theorem img_rng {n : Nat} {srt : Int → Int} {p : List Int} (h : PermA n srt p) (hn : 0 < n) : ∀ (a : Nat) (t : Int), 0 ≤ imgR n p a t ∧ imgR n p a t < ((n ^ a : Nat) : Int)
  | 0, _ => by simp [imgR]
  | a + 1, t => add_mul_rng (h.lt (mod_lt hn t)) (img_rng h hn a _)
theorem img_inj {n : Nat} {srt : Int → Int} {p : List Int} (h : PermA n srt p) (hn : 0 < n) : ∀ (a : Nat) {t u : Int}, (0 ≤ t ∧ t < ((n ^ a : Nat) : Int)) → (0 ≤ u ∧ u < ((n ^ a : Nat) : Int)) → imgR n p a t = imgR n p a u → t = u
  | 0, t, u, ht, hu, _ => by rw [Nat.pow_zero] at ht hu; omega
  | a + 1, t, u, ht, hu, e => by
    have d1 := h.lt (mod_lt hn t)
    have d2 := h.lt (mod_lt hn u)
    have e1 : p.getD (t % (n : Int)).toNat 0 = p.getD (u % (n : Int)).toNat 0 := by
      have := congrArg (· % (n : Int)) e
      simp only [imgR] at this
      rwa [digit_mod d1, digit_mod d2] at this
    have e2 : imgR n p a (t / (n : Int)) = imgR n p a (u / (n : Int)) := by
      have := congrArg (· / (n : Int)) e
      simp only [imgR] at this
      rwa [digit_div hn d1, digit_div hn d2] at this
    have e3 := h.inj (mod_lt hn t) (mod_lt hn u) e1
    have e4 := img_inj h hn a (div_rng hn ht) (div_rng hn hu) e2
    have m1 := Int.emod_nonneg t (show (n : Int) ≠ 0 by omega)
    have m2 := Int.emod_nonneg u (show (n : Int) ≠ 0 by omega)
    have e5 : t % (n : Int) = u % (n : Int) := by omega
    have q1 := Int.emod_add_mul_ediv t n
    have q2 := Int.emod_add_mul_ediv u n
    rw [← q1, ← q2, e5, e4]
def compA (p q : List Int) : List Int := q.map fun x => p.getD x.toNat 0
theorem comp_len (p q : List Int) : (compA p q).length = q.length := by simp [compA]
theorem comp_get {p q : List Int} {i : Nat} (h : i < (compA p q).length) : (compA p q)[i] = p.getD (q[i]'(by rwa [comp_len] at h)).toNat 0 := by simp [compA]
theorem comp_at {p q : List Int} {i : Nat} (h : i < q.length) : (compA p q).getD i 0 = p.getD (q.getD i 0).toNat 0 := by
  rw [List.getD_eq_getElem?_getD, List.getElem?_eq_getElem (by rw [comp_len]; exact h), List.getD_eq_getElem?_getD (l := q), List.getElem?_eq_getElem h]
  simp [compA]
theorem img_compA {n : Nat} {srt : Int → Int} {p q : List Int} (hq : PermA n srt q) (hn : 0 < n) : ∀ (a : Nat) (t : Int), imgR n (compA p q) a t = imgR n p a (imgR n q a t)
  | 0, _ => rfl
  | a + 1, t => by
    have d1 := hq.lt (mod_lt hn t)
    have e : imgR n (compA p q) (a + 1) t = (compA p q).getD (t % (n : Int)).toNat 0 + (n : Int) * imgR n (compA p q) a (t / (n : Int)) := rfl
    have e2 : imgR n p (a + 1) (imgR n q (a + 1) t) = p.getD (imgR n q (a + 1) t % (n : Int)).toNat 0 + (n : Int) * imgR n p a (imgR n q (a + 1) t / (n : Int)) := rfl
    have e3 : imgR n q (a + 1) t = q.getD (t % (n : Int)).toNat 0 + (n : Int) * imgR n q a (t / (n : Int)) := rfl
    rw [e, e2, e3, digit_mod d1, digit_div hn d1, comp_at (by rw [hq.len]; exact mod_lt hn t), img_compA hq hn a]
theorem PermA.comp {n : Nat} {srt : Int → Int} {p q : List Int} (hp : PermA n srt p) (hq : PermA n srt q) : PermA n srt (compA p q) := by
  refine ⟨by rw [comp_len, hq.len], ?_, fun x hx => ?_, fun i h => ?_⟩
  · unfold compA
    refine List.Pairwise.map _ (fun a b hab => ?_) (List.Pairwise.and_mem.1 hq.nodup)
    obtain ⟨ha, hb, hab⟩ := hab
    intro e
    have h1 := hq.rng _ ha
    have h2 := hq.rng _ hb
    have := hp.inj (by omega) (by omega) e
    omega
  · obtain ⟨y, hy, rfl⟩ := List.mem_map.1 hx
    have := hq.rng _ hy
    exact hp.lt (by omega)
  · have hi : i < q.length := by rwa [comp_len] at h
    have h1 := hq.rng _ (List.getElem_mem hi)
    have e : (compA p q)[i] = p[(q[i]).toNat]'(by rw [hp.len]; omega) := by
      rw [comp_get, hp.at (by omega)]
    rw [e, hp.srt _ (by rw [hp.len]; omega), show (((q[i]).toNat : Nat) : Int) = q[i] by omega, hq.srt i hi]
def invA (p : List Int) : List Int := (List.range p.length).map fun j : Nat => ((p.findIdx fun x => decide (x = (j : Int)) : Nat) : Int)
theorem invA_len (p : List Int) : (invA p).length = p.length := by simp [invA]
theorem invA_at {p : List Int} {j : Nat} (h : j < (invA p).length) : (invA p)[j] = ((p.findIdx fun x => decide (x = (j : Int)) : Nat) : Int) := by simp [invA]
theorem mem_of_nodup (n : Nat) {p : List Int} (hnd : p.Nodup) (hr : ∀ x ∈ p, 0 ≤ x ∧ x < (n : Int)) (hl : p.length = n) {j : Int} (hj : 0 ≤ j ∧ j < (n : Int)) : j ∈ p := by
  apply Classical.byContradiction
  intro hn
  have := nodup_len n (l := (j :: p).map (· + 1)) (by
    refine List.Pairwise.map _ (fun a b hab e => hab (by omega)) (List.nodup_cons.2 ⟨hn, hnd⟩)) (fun x hx => by
    obtain ⟨y, hy, rfl⟩ := List.mem_map.1 hx
    rcases List.mem_cons.1 hy with rfl | hy
    · omega
    · have := hr y hy; omega)
  simp only [List.length_map, List.length_cons] at this
  omega
theorem PermA.find {n : Nat} {srt : Int → Int} {p : List Int} (h : PermA n srt p) {j : Nat} (hj : j < n) : ∃ i : Nat, ∃ hi : i < p.length, (p.findIdx fun x => decide (x = (j : Int))) = i ∧ p[i] = (j : Int) :=
  find_at (mem_of_nodup n h.nodup h.rng h.len (by omega))
theorem PermA.inv_at {n : Nat} {srt : Int → Int} {p : List Int} (h : PermA n srt p) {i : Nat} (hi : i < n) : (invA p).getD (p.getD i 0).toNat 0 = (i : Int) := by
  have hl := h.lt hi
  have hln := h.len
  have hlt : (p.getD i 0).toNat < (invA p).length := by rw [invA_len]; omega
  obtain ⟨k, hk, k1, k2⟩ := h.find (j := (p.getD i 0).toNat) (by omega)
  rw [List.getD_eq_getElem?_getD, List.getElem?_eq_getElem hlt]
  show (invA p)[_] = _
  rw [invA_at, k1]
  have : k = i := h.inj (by omega) hi (by rw [h.at (by omega), k2]; omega)
  omega
theorem PermA.inv {n : Nat} {srt : Int → Int} {p : List Int} (h : PermA n srt p) : PermA n srt (invA p) := by
  have hln := h.len
  refine ⟨by rw [invA_len, h.len], ?_, fun x hx => ?_, fun j hj => ?_⟩
  · unfold List.Nodup
    rw [List.pairwise_iff_getElem]
    intro a b ha hb hab e
    rw [invA_at, invA_at] at e
    rw [invA_len] at ha hb
    obtain ⟨i, i0, i1, i2⟩ := h.find (j := a) (by omega)
    obtain ⟨j, j0, j1, j2⟩ := h.find (j := b) (by omega)
    rw [i1, j1] at e
    have : i = j := by omega
    subst this
    omega
  · obtain ⟨j, hj, rfl⟩ := List.getElem_of_mem hx
    rw [invA_at]
    rw [invA_len] at hj
    obtain ⟨i, i0, i1, i2⟩ := h.find (j := j) (by omega)
    rw [i1]
    omega
  · rw [invA_at]
    rw [invA_len] at hj
    obtain ⟨i, i0, i1, i2⟩ := h.find (j := j) (by omega)
    rw [i1, ← h.srt i i0, i2]
def idA (n : Nat) : List Int := (List.range n).map fun i : Nat => (i : Int)
theorem idA_at {n i : Nat} (h : i < n) : (idA n).getD i 0 = (i : Int) := by
  rw [List.getD_eq_getElem?_getD, List.getElem?_eq_getElem (by simp [idA]; exact h)]
  simp [idA]
theorem idA_len (n : Nat) : (idA n).length = n := by simp [idA]
theorem PermA.id (n : Nat) (srt : Int → Int) : PermA n srt (idA n) := by
  refine ⟨idA_len n, ?_, fun x hx => ?_, fun i h => by simp [idA]⟩
  · unfold idA
    refine List.Pairwise.map _ (fun a b hab e => hab (by omega)) List.nodup_range
  · obtain ⟨y, hy, rfl⟩ := List.mem_map.1 hx
    have := List.mem_range.1 hy
    omega
theorem comp_inv {n : Nat} {srt : Int → Int} {p : List Int} (h : PermA n srt p) : compA p (invA p) = idA n := by
  have hln := h.len
  refine List.ext_getElem (by rw [comp_len, invA_len, h.len, idA_len]) fun j h1 h2 => ?_
  rw [idA_len] at h2
  obtain ⟨i, i0, i1, i2⟩ := h.find (j := j) h2
  rw [comp_get, invA_at, i1]
  show p.getD i 0 = _
  rw [h.at (by omega), i2]
  simp [idA]
theorem inv_comp {n : Nat} {srt : Int → Int} {p : List Int} (h : PermA n srt p) : compA (invA p) p = idA n := by
  have hln := h.len
  refine List.ext_getElem (by rw [comp_len, h.len, idA_len]) fun i h1 h2 => ?_
  rw [idA_len] at h2
  rw [comp_get]
  have := h.inv_at h2
  rw [h.at h2] at this
  rw [this]
  simp [idA]
theorem img_id {n : Nat} (hn : 0 < n) : ∀ (a : Nat) {t : Int}, (0 ≤ t ∧ t < ((n ^ a : Nat) : Int)) → imgR n (idA n) a t = t
  | 0, t, h => by rw [Nat.pow_zero] at h; show (0 : Int) = t; omega
  | a + 1, t, h => by
    show (idA n).getD (t % (n : Int)).toNat 0 + (n : Int) * imgR n (idA n) a (t / (n : Int)) = t
    rw [idA_at (mod_lt hn t), img_id hn a (div_rng hn h)]
    have m1 := Int.emod_nonneg t (show (n : Int) ≠ 0 by omega)
    have q1 := Int.emod_add_mul_ediv t n
    omega
def keepL (n : Nat) (p : List Int) (a : Nat) (ts : List Int) : Bool := decide (canon (ts.map (imgR n p a)) = ts)
structure RanksOk (n a : Nat) (ts : List Int) : Prop where
  inc : Inc ts
  rng : ∀ t ∈ ts, 0 ≤ t ∧ t < ((n ^ a : Nat) : Int)
theorem keep_iff {n a : Nat} {p ts : List Int} (h : Inc ts) : keepL n p a ts = true ↔ ∀ x, x ∈ ts.map (imgR n p a) ↔ x ∈ ts := by
  unfold keepL
  rw [decide_eq_true_iff]
  constructor
  · intro e x
    rw [← canon_mem (zs := ts.map (imgR n p a)), e]
  · intro e
    exact inc_ext (canon_inc _) h fun x => by rw [canon_mem]; exact e x
theorem keep_mem {n a : Nat} {p ts : List Int} (h : Inc ts) (hk : keepL n p a ts = true) {t : Int} (ht : t ∈ ts) : imgR n p a t ∈ ts :=
  ((keep_iff h).1 hk _).1 (List.mem_map.2 ⟨t, ht, rfl⟩)
theorem keep_back {n a : Nat} {srt : Int → Int} {p ts : List Int} (hp : PermA n srt p) (hn : 0 < n) (h : RanksOk n a ts) (hk : keepL n p a ts = true) {t : Int} (ht : 0 ≤ t ∧ t < ((n ^ a : Nat) : Int)) (hi : imgR n p a t ∈ ts) : t ∈ ts := by
  obtain ⟨u, hu, e⟩ := List.mem_map.1 (((keep_iff h.inc).1 hk _).2 hi)
  rw [← img_inj hp hn a (h.rng u hu) ht e]
  exact hu
theorem keep_comp {n a : Nat} {srt : Int → Int} {p q ts : List Int} (hq : PermA n srt q) (hn : 0 < n) (h : Inc ts) (h1 : keepL n p a ts = true) (h2 : keepL n q a ts = true) : keepL n (compA p q) a ts = true := by
  rw [keep_iff h] at h1 h2 ⊢
  intro x
  constructor
  · intro hx
    obtain ⟨t, ht, rfl⟩ := List.mem_map.1 hx
    rw [img_compA hq hn]
    exact (h1 _).1 (List.mem_map.2 ⟨_, (h2 _).1 (List.mem_map.2 ⟨t, ht, rfl⟩), rfl⟩)
  · intro hx
    obtain ⟨u, hu, rfl⟩ := List.mem_map.1 ((h1 x).2 hx)
    obtain ⟨t, ht, rfl⟩ := List.mem_map.1 ((h2 u).2 hu)
    exact List.mem_map.2 ⟨t, ht, img_compA hq hn a t⟩
theorem keep_inv {n a : Nat} {srt : Int → Int} {p ts : List Int} (hp : PermA n srt p) (hn : 0 < n) (h : RanksOk n a ts) (h1 : keepL n p a ts = true) : keepL n (invA p) a ts = true := by
  have key : ∀ t ∈ ts, imgR n (invA p) a (imgR n p a t) = t := fun t ht => by
    rw [← img_compA hp hn, inv_comp hp, img_id hn a (h.rng t ht)]
  rw [keep_iff h.inc] at h1 ⊢
  intro x
  constructor
  · intro hx
    obtain ⟨t, ht, rfl⟩ := List.mem_map.1 hx
    obtain ⟨u, hu, rfl⟩ := List.mem_map.1 ((h1 t).2 ht)
    rw [key u hu]
    exact hu
  · intro hx
    exact List.mem_map.2 ⟨imgR n p a x, (h1 _).1 (List.mem_map.2 ⟨x, hx, rfl⟩), key x hx⟩
theorem keep_id {n a : Nat} (hn : 0 < n) {ts : List Int} (h : RanksOk n a ts) : keepL n (idA n) a ts = true := by
  rw [keep_iff h.inc]
  intro x
  constructor
  · intro hx
    obtain ⟨t, ht, rfl⟩ := List.mem_map.1 hx
    rw [img_id hn a (h.rng t ht)]; exact ht
  · intro hx
    exact List.mem_map.2 ⟨x, hx, img_id hn a (h.rng x hx)⟩
def allM (n : Nat) (srt : Int → Int) : Nat → List (List Int)
  | 0 => [[]]
  | i + 1 => (allM n srt i).flatMap fun p => ((List.range n).filter fun x : Nat => decide (srt x = srt i) && !decide ((x : Int) ∈ p)).map fun x : Nat => p ++ [(x : Int)]
theorem allM_mem {n : Nat} {srt : Int → Int} : ∀ {i : Nat} {p : List Int}, p ∈ allM n srt i ↔ p.length = i ∧ p.Nodup ∧ (∀ x ∈ p, 0 ≤ x ∧ x < (n : Int)) ∧ ∀ (k : Nat) (h : k < p.length), srt p[k] = srt (k : Int)
  | 0, p => by
    rw [allM, List.mem_singleton]
    constructor
    · rintro rfl
      exact ⟨rfl, List.nodup_nil, by simp, by simp⟩
    · rintro ⟨h, _⟩
      exact List.eq_nil_of_length_eq_zero h
  | i + 1, p => by
    rw [allM, List.mem_flatMap]
    constructor
    · rintro ⟨q, hq, hp⟩
      obtain ⟨x, hx, rfl⟩ := List.mem_map.1 hp
      obtain ⟨hx, hc⟩ := List.mem_filter.1 hx
      rw [Bool.and_eq_true, decide_eq_true_iff, Bool.not_eq_true', decide_eq_false_iff_not] at hc
      obtain ⟨h1, h2, h3, h4⟩ := allM_mem.1 hq
      have hx := List.mem_range.1 hx
      refine ⟨by rw [List.length_append, h1]; rfl, ?_, fun y hy => ?_, fun k h => ?_⟩
      · rw [List.nodup_append]
        exact ⟨h2, by simp, fun a ha b hb e => by rw [List.mem_singleton] at hb; subst hb; subst e; exact hc.2 ha⟩
      · rcases List.mem_append.1 hy with hy | hy
        · exact h3 y hy
        · rw [List.mem_singleton] at hy; subst hy; omega
      · rw [List.length_append, List.length_singleton] at h
        by_cases hk : k < q.length
        · rw [List.getElem_append_left hk]; exact h4 k hk
        · have : k = i := by omega
          subst this
          rw [List.getElem_append_right (by omega)]
          simp only [List.getElem_singleton]
          exact hc.1
    · rintro ⟨h1, h2, h3, h4⟩
      have hne : p ≠ [] := by rintro rfl; simp at h1
      have hs : p.dropLast ++ [p.getLast hne] = p := List.dropLast_concat_getLast hne
      have hl : p.dropLast.length = i := by rw [List.length_dropLast]; omega
      have hr := h3 _ (List.getLast_mem hne)
      have hnd : (p.dropLast ++ [p.getLast hne]).Nodup := by rw [hs]; exact h2
      rw [List.nodup_append] at hnd
      refine ⟨p.dropLast, allM_mem.2 ⟨hl, hnd.1, fun x hx => h3 x (List.dropLast_subset _ hx), fun k h => ?_⟩, List.mem_map.2 ⟨(p.getLast hne).toNat, List.mem_filter.2 ⟨List.mem_range.2 (by omega), ?_⟩, ?_⟩⟩
      · rw [List.getElem_dropLast]; exact h4 k (by rw [List.length_dropLast] at h; omega)
      · rw [Bool.and_eq_true, decide_eq_true_iff, Bool.not_eq_true', decide_eq_false_iff_not, show (((p.getLast hne).toNat : Nat) : Int) = p.getLast hne by omega]
        constructor
        · rw [List.getLast_eq_getElem, h4 _ (by omega)]
          congr 1
          omega
        · intro hm
          exact hnd.2.2 _ hm _ (List.mem_singleton.2 rfl) rfl
      · rw [show (((p.getLast hne).toNat : Nat) : Int) = p.getLast hne by omega]; exact hs
theorem all_perm {n : Nat} {srt : Int → Int} {p : List Int} : p ∈ allM n srt n ↔ PermA n srt p := by
  rw [allM_mem]
  exact ⟨fun ⟨h1, h2, h3, h4⟩ => ⟨h1, h2, h3, h4⟩, fun ⟨h1, h2, h3, h4⟩ => ⟨h1, h2, h3, h4⟩⟩
end Go.Ab
/- Chapter 05's small functions, and their like in chapter 07's reference: sums, sorts, scopes. -/
namespace Go.Ab
open Go Go.Proofs
set_option maxRecDepth 20000
set_option maxHeartbeats 4000000
abbrev SortM := ByteArray × Bool
structure FieldM where
  name : ByteArray
  sorts : List Int
  var : Bool
structure SlV where
  a : Option Addr
  l : Nat
  c : Nat
def encSo (s : SortM) : List PV := [.lit (.string s.1), .lit (.bool s.2)]
def encF (f : FieldM) : List PV := [.lit (.string f.name), ints f.sorts, .lit (.bool f.var)]
structure SpecM where
  sorts : List SortM
  fields : List FieldM
  preds : SlV
  facts : SlV
abbrev slv (s : SlV) : AV := .pv (.lit (.slice s.a s.l s.c))
abbrev spc (s : SpecM) : AV := .agg [.pv (.slice 2 (s.sorts.map encSo)), .pv (.slice 3 (s.fields.map encF)), slv s.preds, slv s.facts]
abbrev scp (at' : List Int) (st : Int) : AV := .agg [.pv (ints at'), litI st]
def SmA (at' : List Int) : Prop := at'.length ≤ 1000 ∧ ∀ x ∈ at', 0 ≤ x ∧ x ≤ 1000
theorem sum_snoc (l : List Int) {k : Nat} (hk : k < l.length) : (l.take (k + 1)).sum = (l.take k).sum + l[k] := by
  rw [take_succ_get hk, List.sum_append]; simp
theorem sum_bound : ∀ (l : List Int), (∀ x ∈ l, 0 ≤ x ∧ x ≤ 1000) → 0 ≤ l.sum ∧ l.sum ≤ 1000 * l.length := by
  intro l
  induction l with
  | nil => intro _; simp
  | cons x l ih =>
    intro h
    have h1 := h x (by simp)
    have h2 := ih fun y hy => h y (by simp [hy])
    simp only [List.sum_cons, List.length_cons]
    omega
theorem SmA.take {at' : List Int} (h : SmA at') (k : Nat) : 0 ≤ (at'.take k).sum ∧ (at'.take k).sum ≤ 1000000 := by
  have h1 := sum_bound (at'.take k) fun x hx => h.2 x (List.mem_of_mem_take hx)
  have h2 := List.length_take_le k at'
  have h3 : (at'.take k).length ≤ 1000 := by have := h.1; simp; omega
  omega
attribute [local irreducible] AW AOps thenD inBlockD AR iterEnds roundEndsN inlEnds noGotoD
def sizesOk (at' : List Int) : Bool := at'.all fun n => decide (1 ≤ n ∧ n ≤ 5)
theorem sizesOk_no {at' : List Int} {k : Nat} (hk : k < at'.length) (h : ¬ (1 ≤ at'[k] ∧ at'[k] ≤ 5)) : sizesOk at' = false := by
  unfold sizesOk; rw [List.all_eq_false]; exact ⟨_, List.getElem_mem hk, by simpa using h⟩
theorem sizesOk_all {at' : List Int} : sizesOk at' = true ↔ ∀ x ∈ at', 1 ≤ x ∧ x ≤ 5 := by
  unfold sizesOk; rw [List.all_eq_true]; simp
theorem sizesOk_sm {at' : List Int} (h : sizesOk at' = true) (hl : at'.length ≤ 1000) : SmA at' := ⟨hl, fun x hx => by have := sizesOk_all.1 h x hx; omega⟩
theorem sizes_step {at' : List Int} {k : Nat} (h : sizesOk (at'.take k) = true) (hk : k < at'.length) (hx : 1 ≤ at'[k] ∧ at'[k] ≤ 5) : sizesOk (at'.take (k + 1)) = true := by
  rw [sizesOk_all] at *
  rw [take_succ_get hk]
  intro x hm
  rcases List.mem_append.1 hm with hm | hm
  · exact h x hm
  · simp at hm; subst hm; exact hx
end Go.Ab
