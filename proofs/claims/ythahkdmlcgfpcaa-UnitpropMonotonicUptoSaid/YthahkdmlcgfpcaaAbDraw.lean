/- Regions that draw their order and hold operations with an effect: what only reads is taken first, the rest is walked in each order. -/
import Derived.Test.YthahkdmlcgfpcaaAbMem
import Derived.OrdersIn
set_option linter.unusedSimpArgs false
set_option linter.unusedVariables false
namespace Go.Ab
open Go Go.RowKit
variable {P : Program} {g : Ghost} {δ : DS} {κ : Nat → Option Nat} {a : Act} {w : World}
variable {ops : Array Oper} {Q : Exit → Act → World → Prop} {ro : Option Nat}

/-- An operation oj goes as well where another's value does not lie yet. -/
theorem wpOpIn_swap {j : Nat} {oi oj : Oper} {v : Value} {I : Act → Prop} (hj : ops[j]? = some oj) (hnd : noDefer oj = true) (hap : oi.apart ops oj = true)
    (hsj : ∀ cs b, oj.op ≠ .select cs b) (hQ : ∀ c a w, Q (.panic c) (a.put oi.dst v) w → Q (.panic c) a w) (keep : ∀ a u, I a → I (a.put oj.dst u)) (keepD : ∀ (a : Act) d, I a → I { a with defers := d :: a.defers }) {K : Act → World → Prop} {a : Act} {w : World}
    (hy : I a) (h : wpOpIn (Fw ro) 0 P ops Q j K (a.put oi.dst v) w) : wpOpIn (Fw ro) 0 P ops Q j (fun a' w' => I a' ∧ K (a'.put oi.dst v) w') a w := by
  obtain ⟨h1, h2, h3⟩ := Oper.apart_spec hap
  unfold wpOpIn at *
  simp only [hj] at *
  rw [wanted_put oj a oi.dst v h1, about_put oj w a oi.dst v h1] at h
  have hsem : ∀ ρ, oj.semAt (Fw ro).round ρ = execOp ρ oj := fun ρ => Oper.semAt_eq _ _ _ (by intro c e; simp [noDefer, e] at hnd)
  split
  · rename_i hw
    simp only [hw, if_true] at h
    unfold Oper.wpIn at *
    rw [about_put oj w a oi.dst v h1] at h
    refine ⟨h.1, ?_⟩
    have h := h.2
    rw [hsem, execOp_put oj hsj a oi.dst v h1] at h
    rw [hsem]
    generalize (execOp a.eval oj).run P w = r at *
    cases r with
    | ok x w' =>
      cases x <;> simp only [Oper.uponIn] at h ⊢
      case value u => exact ⟨keep a u hy, by rw [← Act.put_comm a v u h2]; exact h⟩
      case skip => exact ⟨keep a _ hy, by rw [← Act.put_comm a v undef h2]; exact h⟩
      case defer d =>
        refine ⟨keep _ _ (keepD _ _ hy), ?_⟩
        rw [← Act.put_comm _ v undef h2, ← Act.put_defers]
        exact h
      case enter f args =>
        refine ⟨h.1, CallsIn.mono h.2 fun e w'' he => ?_⟩
        cases e with
        | returned u => exact ⟨keep a u hy, by rw [← Act.put_comm a v u h2]; exact he⟩
        | panicked c => exact hQ _ _ _ he
        | outgrown => exact he
      case row row args => exact ⟨h.1, RowsIn.mono h.2 fun u w'' he => ⟨keep a u hy, by rw [← Act.put_comm a v u h2]; exact he⟩⟩
      case round l f tmps assign body =>
        refine ⟨h.1, RoundIn.mono h.2 fun e w'' he => ?_⟩
        cases e with
        | returned u => exact ⟨keep a u hy, by rw [← Act.put_comm a v u h2]; exact he⟩
        | panicked c => exact hQ _ _ _ he
        | outgrown => exact he
    | halt x w' =>
      cases x <;> simp only [Oper.uponIn] at h ⊢
      case panic u => exact hQ _ _ _ h
  · rename_i hw
    simp only [hw] at h
    exact ⟨h.1, keep a _ hy, by rw [← Act.put_comm a v undef h2]; exact h.2⟩

/-- Whatever order is picked from here on; S is shown behind every operation that is carried out. -/
def wpAnyL (ro : Option Nat) (P : Program) (ops : Array Oper) (Q : Exit → Act → World → Prop) (S : Array Bool → World → Prop) : Nat → Array Bool → Act → World → Prop
  | 0, listed, a, w => Region.ready .any ops listed = [] ∧ Q .normal a w
  | fuel + 1, listed, a, w =>
    (Region.ready .any ops listed = [] → Q .normal a w) ∧
    ∀ i ∈ Region.ready .any ops listed, wpOpIn (Fw ro) 0 P ops Q i (fun a' w' => S (listed.setIfInBounds i true) w' ∧ wpAnyL ro P ops Q S fuel (listed.setIfInBounds i true) a' w') a w

theorem wpAny_of_L {S : Array Bool → World → Prop} : ∀ (fuel : Nat) (listed : Array Bool) (a : Act) (w : World), wpAnyL ro P ops Q S fuel listed a w → wpAnyIn (Fw ro) 0 P .any ops Q fuel listed a w
  | 0, _, _, _, h => h
  | fuel + 1, _, _, _, h => ⟨h.1, fun i hi => wpOpIn_mono (fun a' w' h' => wpAny_of_L fuel _ a' w' h'.2) (h.2 i hi)⟩

/-- what is listed is shut under waiting. -/
def DC (ops : Array Oper) (listed : Array Bool) : Prop := ∀ j o, ops[j]? = some o → listed.getD j false = true → ∀ e ∈ o.after, Region.binds .any e = true → listed.getD e.on false = true

theorem getD_set (listed : Array Bool) (i j : Nat) (d : Bool) : (listed.setIfInBounds i true).getD j d = if i = j then (if i < listed.size then true else d) else listed.getD j d := by
  by_cases h : i = j
  · subst h
    rw [if_pos rfl]
    by_cases hlt : i < listed.size
    · simp [hlt]
    · simp [hlt]
  · rw [if_neg h]; exact getD_set_ne d h

theorem DC.ready {listed : Array Bool} (h : DC ops listed) {i : Nat} (hi : i ∈ Region.ready .any ops listed) : DC ops (listed.setIfInBounds i true) := by
  intro j o ho hj e he hb
  obtain ⟨_, o', ho', hall⟩ := mem_ready.1 hi
  by_cases hij : i = j
  · subst hij
    rw [ho'] at ho; cases ho
    exact getD_set_true (hall e he hb)
  · rw [getD_set_ne false hij] at hj
    exact getD_set_true (h j o ho hj e he hb)

theorem wpAnyL_first {S : Array Bool → World → Prop} {C : World → Prop} {i : Nat} {oi : Oper} {v : Value} (hi : ops[i]? = some oi) (hsel : ∀ (j : Nat) (o : Oper) cs b, ops[j]? = some o → o.op ≠ .select cs b) (hnd : ∀ (j : Nat) (o : Oper), ops[j]? = some o → noDefer o = true)
    (hQ : ∀ c a w, Q (.panic c) (a.put oi.dst v) w → Q (.panic c) a w)
    (hC : ∀ listed w, DC ops listed → listed.getD i true = false → S listed w → C w) (hS : ∀ listed w, S (listed.setIfInBounds i true) w ↔ S listed w) :
    ∀ (fuel : Nat) (listed : Array Bool) (a : Act) (w : World), DC ops listed →
      (∀ j oj, ops[j]? = some oj → j ≠ i → listed.getD j true = false → (∀ e ∈ oj.after, Region.binds .any e = true → e.on ≠ i) → oi.apart ops oj = true) →
      i ∈ Region.ready .any ops listed → YieldsIf P ops C oi v a → S listed w →
      wpAnyL ro P ops Q S fuel (listed.setIfInBounds i true) (a.put oi.dst v) w → wpAnyL ro P ops Q S (fuel + 1) listed a w := by
  have hone : ∀ {K : Act → World → Prop} {a : Act} {w : World}, YieldsIf P ops C oi v a → C w → K (a.put oi.dst v) w → wpOpIn (Fw ro) 0 P ops Q i K a w := by
    intro K a w hy hw hk
    unfold wpOpIn
    simp only [hi]
    rcases hy with ⟨hwd, hv⟩ | ⟨hwd, rfl⟩
    · simp only [hwd, if_true, Oper.wpIn]
      refine ⟨fun _ _ => trivial, ?_⟩
      rw [Oper.semAt_eq _ _ _ (by intro c e; have := hnd i oi hi; simp [noDefer, e] at this), hv w hw]
      exact hk
    · simp only [hwd, Bool.false_eq_true, if_false]; exact ⟨fun _ _ => trivial, hk⟩
  intro fuel
  induction fuel with
  | zero =>
    intro listed a w hdc _ hr hy hSw H
    refine ⟨fun h => (by rw [h] at hr; cases hr), fun j hj => ?_⟩
    by_cases hji : j = i
    · subst hji; exact hone hy (hC listed w hdc (mem_ready.1 hr).1 hSw) ⟨(hS _ _).2 hSw, H⟩
    · have := ready_mono hj hji
      rw [H.1] at this
      cases this
  | succ fuel ih =>
    intro listed a w hdc hfree hr hy hSw H
    refine ⟨fun h => (by rw [h] at hr; cases hr), fun j hj => ?_⟩
    by_cases hji : j = i
    · subst hji; exact hone hy (hC listed w hdc (mem_ready.1 hr).1 hSw) ⟨(hS _ _).2 hSw, H⟩
    · have h1 := H.2 j (ready_mono hj hji)
      obtain ⟨hjun, oj, hoj, hall⟩ := mem_ready.1 hj
      have hnot : ∀ e ∈ oj.after, Region.binds .any e = true → e.on ≠ i := fun e he hb heq => by
        have h1 := hall e he hb
        have h0 := (mem_ready.1 hr).1
        rw [heq] at h1
        rcases Nat.lt_or_ge i listed.size with h' | h'
        · simp [h'] at h0 h1; rw [h0] at h1; cases h1
        · simp [Array.getElem?_eq_none h'] at h1
      have hap := hfree j oj hoj hji hjun hnot
      obtain ⟨_, _, h3⟩ := Oper.apart_spec hap
      have h2 := wpOpIn_swap (I := YieldsIf P ops C oi v) hoj (hnd j oj hoj) hap (fun cs b => hsel j oj cs b hoj) hQ
        (fun a u hy => hy.of_same (execOp_put oi (fun cs b => hsel i oi cs b hi) a oj.dst u h3) (wanted_put oi a oj.dst u h3)) (fun a d hy => hy.of_same rfl rfl) hy h1
      have hfree' : ∀ k ok, ops[k]? = some ok → k ≠ i → (listed.setIfInBounds j true).getD k true = false →
          (∀ e ∈ ok.after, Region.binds .any e = true → e.on ≠ i) → oi.apart ops ok = true := fun k ok hk hki hun hno => by
        refine hfree k ok hk hki ?_ hno
        by_cases hjk : j = k
        · subst hjk; exact hjun
        · rw [getD_set_ne true hjk] at hun; exact hun
      refine wpOpIn_mono (fun a' w' h3 => ?_) h2
      obtain ⟨h4, h5, h6⟩ := h3
      rw [Array.setIfInBounds_comm _ _ (Ne.symm hji)] at h5 h6
      have h7 := (hS _ _).1 h5
      exact ⟨h7, ih (listed.setIfInBounds j true) a' w' (hdc.ready hj) hfree' (ready_mono hr (Ne.symm hji)) h4 h7 h6⟩


/-! ### over abstract states -/

abbrev Wt := World × (Nat → Prop) × Nat
def lateIn (late : List Nat) (listed : Array Bool) : Bool := late.any fun j => listed.getD j false
def Sof (k : Wt) (late : List Nat) (listed : Array Bool) (w : World) : Prop := lateIn late listed = false → ∀ b, k.2.1 b → b < k.1.heap.size ∧ w.heap[b]? = k.1.heap[b]?
def gOf (g : Ghost) (k : Wt) (late : List Nat) (listed : Array Bool) : Ghost := { g with wt := if lateIn late listed = true then none else some k }
def setL (n : Nat) : List Nat → Array Bool
  | [] => Array.replicate n false
  | i :: done => (setL n done).setIfInBounds i true

theorem lateIn_set {late : List Nat} {i : Nat} (h : late.contains i = false) (listed : Array Bool) : lateIn late (listed.setIfInBounds i true) = lateIn late listed := by
  unfold lateIn
  induction late with
  | nil => rfl
  | cons j late ih =>
    simp only [List.contains_cons, Bool.or_eq_false_iff] at h
    have hij : i ≠ j := by simpa using h.1
    simp only [List.any_cons]
    rw [getD_set_ne false hij, ih h.2]
theorem lateIn_mono {late : List Nat} {i : Nat} {listed : Array Bool} (h : lateIn late listed = true) : lateIn late (listed.setIfInBounds i true) = true := by
  unfold lateIn at *
  rw [List.any_eq_true] at *
  obtain ⟨j, h1, h2⟩ := h
  exact ⟨j, h1, getD_set_true h2⟩

theorem Rel.rewt (r : Rel g δ κ a w) {wt' : Option Wt} (h : ∀ k, wt' = some k → (∀ b, k.2.1 b → b < k.1.heap.size ∧ w.heap[b]? = k.1.heap[b]?) ∧ ∀ i b, δ.live i → (δ.lr i ∨ k.2.2 ≤ i) → κ i = some b → ¬ k.2.1 b) : Rel { g with wt := wt' } δ κ a w :=
  { n := r.n, dfr := r.dfr, env := r.env, obj := r.obj, inj := r.inj, lo := r.lo, nx := r.nx, wt := h, below := r.below, hB := r.hB, N0 := r.N0 }

theorem gOf_step {k : Wt} {late : List Nat} {listed : Array Bool} (i : Nat) (r : Rel (gOf g k late listed) δ κ a w) : Rel (gOf g k late (listed.setIfInBounds i true)) δ κ a w := by
  refine Rel.rewt (g := gOf g k late listed) r (wt' := if lateIn late (listed.setIfInBounds i true) = true then none else some k) fun k' hk' => ?_
  by_cases h : lateIn late (listed.setIfInBounds i true) = true
  · rw [if_pos h] at hk'; cases hk'
  · rw [if_neg h] at hk'
    cases hk'
    refine r.wt k ?_
    show (if lateIn late listed = true then none else some k) = some k
    rw [if_neg (fun h' => h (lateIn_mono h'))]
theorem gOf_S {k : Wt} {late : List Nat} {listed : Array Bool} (r : Rel (gOf g k late listed) δ κ a w) : Sof k late listed w := by
  intro h
  refine (r.wt k ?_).1
  show (if lateIn late listed = true then none else some k) = some k
  rw [if_neg (by simp [h])]
theorem gOf_none {k : Wt} {late : List Nat} {listed : Array Bool} (hwt : g.wt = none) (r : Rel (gOf g k late listed) δ κ a w) : Rel g δ κ a w := by
  have := Rel.rewt r (wt' := none) (fun k hk => by cases hk)
  cases g
  cases hwt
  exact this

def onlyN (f : DS → Prop) : Exit → DS → Prop
  | .normal, δ => f δ
  | _, _ => False
theorem onlyN_n {f : DS → Prop} (h : f δ) : onlyN f .normal δ := h
def postN (g : Ghost) (Q : Exit → DS → Prop) : Exit → Act → World → Prop
  | .normal, a, w => lift g Q .normal a w
  | _, _, _ => False

def AR (P : Program) (g : Ghost) (k : Wt) (late : List Nat) (l : List Oper) (Q : Exit → DS → Prop) (done : List Nat) (δ : DS) : Prop :=
  DC l.toArray (setL l.length done) → ∀ κ a w, Rel (gOf g k late (setL l.length done)) δ κ a w → wpAnyL g.ro P l.toArray (postN g Q) (Sof k late) (l.length - done.length) (setL l.length done) a w

def readyIs (l : List Oper) (done rs : List Nat) : Bool := Region.ready .any l.toArray (setL l.length done) == rs

variable {k : Wt} {late : List Nat} {l : List Oper} {dn : List Nat} {QD : Exit → DS → Prop}

theorem AR.done (hwt : g.wt = none) (hr : readyIs l dn [] = true) (h : QD .normal δ) : AR P g k late l QD dn δ := by
  intro _ κ a w r
  have hr' : Region.ready .any l.toArray (setL l.length dn) = [] := by simpa [readyIs] using hr
  have hp : postN g QD .normal a w := ⟨δ, κ, h, gOf_none hwt r⟩
  cases l.length - dn.length with
  | zero => exact ⟨hr', hp⟩
  | succ n => exact ⟨fun _ => hp, by rw [hr']; simp⟩

theorem AR.all {rs : List Nat} (hl : Nat.blt dn.length l.length = true) (hr : readyIs l dn rs = true) (hne : rs ≠ []) (h : ∀ i ∈ rs, ∃ o, l[i]? = some o ∧
    AOps .plain P (gOf g k late (setL l.length (i :: dn))) l.toArray [o] (onlyN (AR P g k late l QD (i :: dn))) δ) : AR P g k late l QD dn δ := by
  intro hdc κ a w r
  have hr' : Region.ready .any l.toArray (setL l.length dn) = rs := by simpa [readyIs] using hr
  have hl' : dn.length < l.length := by simpa using hl
  obtain ⟨n, hn⟩ : ∃ n, l.length - dn.length = n + 1 := ⟨l.length - dn.length - 1, by omega⟩
  rw [hn]
  refine ⟨fun h0 => absurd (hr' ▸ h0) hne, fun i hi => ?_⟩
  have hi' := hi
  rw [hr'] at hi
  obtain ⟨o, ho, hA⟩ := h i hi
  have ho' : l.toArray[i]? = some o := by simpa using ho
  have h1 := hA κ a w (gOf_step i r)
  have hdc' : DC l.toArray (setL l.length (i :: dn)) := hdc.ready hi'
  have hfin : ∀ a' w', lift (gOf g k late (setL l.length (i :: dn))) (onlyN (AR P g k late l QD (i :: dn))) .normal a' w' →
      Sof k late ((setL l.length dn).setIfInBounds i true) w' ∧ wpAnyL g.ro P l.toArray (postN g QD) (Sof k late) n ((setL l.length dn).setIfInBounds i true) a' w' := by
    rintro a' w' ⟨δ', κ', h2, r2⟩
    refine ⟨gOf_S r2, ?_⟩
    have h3 := h2 hdc' κ' a' w' r2
    have e1 : l.length - (i :: dn).length = n := by simp; omega
    rw [e1] at h3
    exact h3
  have hA' : wpListIn (Fw g.ro) 0 P l.toArray (lift (gOf g k late (setL l.length (i :: dn))) (onlyN (AR P g k late l QD (i :: dn)))) [o] a w := h1
  unfold wpListIn at hA'
  unfold wpOpIn
  simp only [ho']
  have hno : ∀ e a w, lift (gOf g k late (setL l.length (i :: dn))) (onlyN (AR P g k late l QD (i :: dn))) e a w → e = .normal := by
    rintro e a w ⟨δ', κ', h2, _⟩
    cases e <;> first | rfl | exact h2.elim
  split
  · rename_i hw
    rw [if_pos hw] at hA'
    obtain ⟨h2, h3⟩ := hA'
    refine ⟨h2, ?_⟩
    revert h3
    generalize (o.semAt (Fw g.ro).round a.eval).run P w = res
    intro h3
    cases res with
    | ok x w' =>
      cases x <;> simp only [Oper.uponIn] at h3 ⊢
      case value u => exact hfin _ _ h3
      case skip => exact hfin _ _ h3
      case defer d => exact hfin _ _ h3
      case enter f args =>
        refine ⟨h3.1, CallsIn.mono h3.2 fun e w'' he => ?_⟩
        cases e with
        | returned u => exact hfin _ _ he
        | panicked c => exact absurd (hno _ _ _ he) (by simp)
        | outgrown =>
          exfalso
          obtain ⟨a2, w2, he⟩ := he
          have := hno _ _ _ he
          cases this
      case row row args => exact ⟨h3.1, RowsIn.mono h3.2 fun u w'' he => hfin _ _ he⟩
      case round l' f tmps assign body =>
        refine ⟨h3.1, RoundIn.mono h3.2 fun e w'' he => ?_⟩
        cases e with
        | returned u => exact hfin _ _ he
        | panicked c => exact absurd (hno _ _ _ he) (by simp)
        | outgrown =>
          exfalso
          obtain ⟨a2, w2, he⟩ := he
          have := hno _ _ _ he
          cases this
    | halt x w' =>
      cases x <;> simp only [Oper.uponIn] at h3 ⊢
      case panic u => exact absurd (hno _ _ _ h3) (by simp)
  · rename_i hw
    rw [if_neg hw] at hA'
    exact ⟨hA'.1, hfin _ _ hA'.2⟩

/-- the one operation that may come up: one before every late one. -/
theorem AR.step1 {i : Nat} {o : Oper} (hl : Nat.blt dn.length l.length = true) (hr : readyIs l dn [i] = true) (ho : l[i]? = some o)
    (h : ∀ g' : Ghost, g'.ro = g.ro → (∀ j, k.2.2 ≤ j → g'.wtOk j) → AOps .plain P g' l.toArray [o] (onlyN (AR P g k late l QD (i :: dn))) δ) : AR P g k late l QD dn δ :=
  AR.all hl hr (by simp) fun i' hi' => by
    simp only [List.mem_singleton] at hi'
    subst hi'
    refine ⟨o, ho, h _ rfl fun j hj k' hk' => ?_⟩
    have : (if lateIn late (setL l.length (i' :: dn)) = true then none else some k) = some k' := hk'
    split at this
    · cases this
    · cases this; exact hj
/-- or a late one. -/
theorem AR.step1L {i : Nat} {o : Oper} (hl : Nat.blt dn.length l.length = true) (hr : readyIs l dn [i] = true) (ho : l[i]? = some o) (hlt : lateIn late (setL l.length (i :: dn)) = true)
    (h : ∀ g' : Ghost, g'.ro = g.ro → g'.wt = none → AOps .plain P g' l.toArray [o] (onlyN (AR P g k late l QD (i :: dn))) δ) : AR P g k late l QD dn δ :=
  AR.all hl hr (by simp) fun i' hi' => by
    simp only [List.mem_singleton] at hi'
    subst hi'
    exact ⟨o, ho, h _ rfl (if_pos hlt)⟩
/-- two that may come up. -/
theorem AR.step2 {i j : Nat} {o p : Oper} (hl : Nat.blt dn.length l.length = true) (hr : readyIs l dn [i, j] = true) (ho : l[i]? = some o) (hp : l[j]? = some p)
    (h : ∀ g' : Ghost, g'.ro = g.ro → (∀ j, k.2.2 ≤ j → g'.wtOk j) → AOps .plain P g' l.toArray [o] (onlyN (AR P g k late l QD (i :: dn))) δ)
    (h' : ∀ g' : Ghost, g'.ro = g.ro → (∀ j, k.2.2 ≤ j → g'.wtOk j) → AOps .plain P g' l.toArray [p] (onlyN (AR P g k late l QD (j :: dn))) δ) : AR P g k late l QD dn δ :=
  AR.all hl hr (by simp) fun i' hi' => by
    have hw : ∀ i', ∀ j, k.2.2 ≤ j → (gOf g k late (setL l.length (i' :: dn))).wtOk j := by
      intro i' j hj k' hk'
      have : (if lateIn late (setL l.length (i' :: dn)) = true then none else some k) = some k' := hk'
      split at this
      · cases this
      · cases this; exact hj
    simp only [List.mem_cons, List.not_mem_nil, or_false] at hi'
    rcases hi' with rfl | rfl
    · exact ⟨o, ho, h _ rfl (hw _)⟩
    · exact ⟨p, hp, h' _ rfl (hw _)⟩

/-- An operation that yields its value in whatever world. -/
def Frees (P : Program) (o : Oper) (δ : DS) (v : AV) : Prop := ∀ (g : Ghost) κ a w, Rel g δ κ a w → ∃ u, (∀ w', (execOp a.eval o).run P w' = .ok (.value u) w') ∧ RA (δ.cx g κ) w u v

def freeB (l : List Oper) (late dn : List Nat) (i : Nat) : Bool :=
  Region.noSelect l.toArray && l.all noDefer && (Region.ready .any l.toArray (setL l.length dn)).contains i && Region.free .any l.toArray (setL l.length dn) i && !late.contains i && Nat.blt dn.length l.length

theorem AR.free (i : Nat) {o : Oper} {v : AV} (hB : freeB l late dn i = true) (ho : l[i]? = some o) (hg : o.guard = none) (hd : okD δ.n o.dst = true) (hF : Frees P o δ v) (h : AR P g k late l QD (i :: dn) (δ.putd o.dst v)) : AR P g k late l QD dn δ := by
  intro hdc κ a w r
  simp only [freeB, Bool.and_eq_true, Bool.not_eq_true'] at hB
  obtain ⟨⟨⟨⟨⟨hs, hnd⟩, hr⟩, hf⟩, hla⟩, hl⟩ := hB
  have hl' : dn.length < l.length := by simpa using hl
  obtain ⟨n, hn⟩ : ∃ n, l.length - dn.length = n + 1 := ⟨l.length - dn.length - 1, by omega⟩
  obtain ⟨u, hu, hra⟩ := hF _ κ a w r
  have hr' : i ∈ Region.ready .any l.toArray (setL l.length dn) := by simpa using hr
  have ho' : l.toArray[i]? = some o := by simpa using ho
  have hdc' : DC l.toArray (setL l.length (i :: dn)) := hdc.ready hr'
  have r2 : Rel (gOf g k late (setL l.length (i :: dn))) (δ.putd o.dst v) κ (a.put o.dst u) w := (gOf_step i r).putd (okD_spec hd) hra
  have h2 := h hdc' κ _ w r2
  have e1 : l.length - (i :: dn).length = n := by simp; omega
  rw [e1] at h2
  rw [hn]
  refine wpAnyL_first (C := fun _ => True) ho' (Region.noSelect_spec hs) (fun j o hj => ?_) (fun c a w h => h.elim) (fun _ _ _ _ _ => trivial) (fun listed w => ?_) n _ a w hdc (Region.free_spec ho' hf) hr' (.inl ⟨by simp [Region.wanted, hg], fun w' _ => hu w'⟩) (gOf_S r) h2
  · exact (List.all_eq_true.1 hnd) o (List.mem_of_getElem? (by simpa using hj))
  · unfold Sof; rw [lateIn_set hla]

/-! ### the beginning -/

def waitsB (ops : Array Oper) (i : Nat) : Nat → Nat → Bool
  | 0, _ => false
  | n + 1, j => match ops[j]? with
    | some o => o.after.any fun e => Region.binds .any e && (e.on == i || waitsB ops i n e.on)
    | none => false
theorem waitsB_spec {ops : Array Oper} {i : Nat} {listed : Array Bool} (hdc : DC ops listed) : ∀ n j, waitsB ops i n j = true → listed.getD j false = true → listed.getD i false = true := by
  intro n
  induction n with
  | zero => intro j h; simp [waitsB] at h
  | succ n ih =>
    intro j h hj
    unfold waitsB at h
    cases ho : ops[j]? with
    | none => rw [ho] at h; cases h
    | some o =>
      rw [ho] at h
      simp only at h
      obtain ⟨e, he, hb⟩ := Array.any_eq_true'.1 h
      simp only [Bool.and_eq_true, Bool.or_eq_true, beq_iff_eq] at hb
      have h1 := hdc j o ho hj e he hb.1
      rcases hb.2 with h2 | h2
      · rw [← h2]; exact h1
      · exact ih _ h2 h1

def firstB (l : List Oper) (late : List Nat) : List Nat → List Nat → Bool
  | [], _ => true
  | i :: r, dn => freeB l late dn i && late.all (waitsB l.toArray i l.length) && firstB l late r (i :: dn)

def pick (l : List Oper) (is : List Nat) : List Oper := is.filterMap (l[·]?)

theorem heldIn {κ1 : Nat → Option Nat} {w1 : World} {k : Wt} {δ0 : DS} (hk1 : k.1 = w1) (hk2 : k.2.1 = fun b => b < w1.heap.size ∧ ∀ i, δ0.lr i → κ1 i ≠ some b) {post : Act → Prop} {N : Nat} :
    ∀ (l1 dn : List Nat) (a : Act), firstB l late l1 dn = true → DC l.toArray (setL l.length dn) → Sof k late (setL l.length dn) w1 → wpHeld P l.toArray (Held δ0 κ1 w1) post (pick l l1) a →
      (∀ a', post a' → DC l.toArray (setL l.length (l1.reverse ++ dn)) → wpAnyL ro P l.toArray (postN g QD) (Sof k late) N (setL l.length (l1.reverse ++ dn)) a' w1) → wpAnyL ro P l.toArray (postN g QD) (Sof k late) (l1.length + N) (setL l.length dn) a w1 := by
  intro l1
  induction l1 with
  | nil => intro dn a _ hdc _ h hp; simpa using hp a h hdc
  | cons i r ih =>
    intro dn a hB hdc hS h hp
    simp only [firstB, freeB, Bool.and_eq_true, Bool.not_eq_true'] at hB
    obtain ⟨⟨⟨⟨⟨⟨⟨hs, hnd⟩, hr⟩, hf⟩, hla⟩, hl⟩, hwait⟩, hrest⟩ := hB
    have hr' : i ∈ Region.ready .any l.toArray (setL l.length dn) := by simpa using hr
    obtain ⟨_, o, ho', _⟩ := mem_ready.1 hr'
    have ho : l[i]? = some o := by simpa using ho'
    have hpk : pick l (i :: r) = o :: pick l r := by simp [pick, ho]
    rw [hpk] at h
    obtain ⟨v, hy, h⟩ := h
    have hset : ∀ listed w, Sof k late (listed.setIfInBounds i true) w ↔ Sof k late listed w := fun listed w => by unfold Sof; rw [lateIn_set hla]
    have hfu : (i :: r).length + N = (r.length + N) + 1 := by simp; omega
    rw [hfu]
    refine wpAnyL_first (C := Held δ0 κ1 w1) ho' (Region.noSelect_spec hs) (fun j o hj => ?_) (fun c a w h => h.elim) (fun listed w hd hi hSl => ?_) hset _ _ a w1 hdc (Region.free_spec ho' hf) hr' hy hS ?_
    · exact (List.all_eq_true.1 hnd) o (List.mem_of_getElem? (by simpa using hj))
    · have hno : lateIn late listed = false := by
        unfold lateIn
        rw [List.any_eq_false]
        intro j hj hlj
        have h1 := waitsB_spec hd _ _ ((List.all_eq_true.1 hwait) j hj) hlj
        rcases Nat.lt_or_ge i listed.size with h' | h'
        · simp [h'] at hi h1; rw [hi] at h1; cases h1
        · simp [Array.getElem?_eq_none h'] at h1
      have h2 := hSl hno
      rw [hk1, hk2] at h2
      exact fun b hb hn => (h2 b ⟨hb, hn⟩).2
    · have := ih (i :: dn) (a.put o.dst v) hrest (hdc.ready hr') ((hset _ _).2 hS) h
      refine this fun a' ha' hd' => ?_
      have e : (i :: r).reverse ++ dn = r.reverse ++ i :: dn := by simp
      rw [← e]
      exact hp a' ha' (by rw [e]; exact hd')

theorem DC.start (l : List Oper) : DC l.toArray (setL l.length []) := by
  intro j o _ hj
  have : (Array.replicate l.length false).getD j false = true := hj
  simp [Array.getElem?_replicate] at this
  split at this <;> cases this

/-- **A region that draws its order**: 'l1' is taken first, all of it only reads; what is behind is walked. -/
theorem AW.regionE {id : Nat} (l1 : List Nat) (late : List Nat) {l : List Oper} (hm : P.follows .mixedOrders = true) (hwt : g.wt = none) (hB : firstB l late l1 [] = true) (hle : Nat.ble l1.length l.length = true)
    (h : AOps .held P g l.toArray (pick l l1) (onlyN fun δ' => ∀ k : Wt, k.2.2 = δ.nx → AR P g k late l QD l1.reverse δ') δ) : AW P g (.region id l.toArray true) QD δ := by
  intro κ a w r
  have hle' : l1.length ≤ l.length := by simpa using hle
  have r1 : Rel g δ κ a { w with drawn := w.drawn + 1 } := r.ext (Below.drew (Below.refl _ _))
  have h1 := h κ a _ r1
  obtain ⟨k, hk⟩ : ∃ k : Wt, k = ({ w with drawn := w.drawn + 1 }, (fun b => b < w.heap.size ∧ ∀ i, δ.lr i → κ i ≠ some b), δ.nx) := ⟨_, rfl⟩
  refine wpIn_mono (Q := postN g QD) (wpIn_region_any hm (wpAny_of_L (S := Sof k late) _ _ _ _ ?_)) (fun e a w h => by cases e <;> first | exact h | exact h.elim)
  have hk0 : Sof k late (setL l.length []) { w with drawn := w.drawn + 1 } := fun _ b hb => by subst hk; exact ⟨hb.1, rfl⟩
  have h2 := heldIn (ro := g.ro) (g := g) (QD := QD) (late := late) (l := l) (P := P) (δ0 := δ) (κ1 := κ) (w1 := { w with drawn := w.drawn + 1 }) (k := k) (by rw [hk]) (by rw [hk]) (N := l.length - l1.length) l1 [] a hB (DC.start l) hk0 h1 (fun a' ha' hd' => by
    obtain ⟨δ', hq, hobj, r2⟩ := ha'
    have h3 := hq k (by rw [hk]) (by simpa using hd') κ a' { w with drawn := w.drawn + 1 } (by
      have hob : ∀ i, δ'.ob i = δ.ob i := fun i => by unfold DS.ob; rw [hobj]
      refine Rel.rewt r2 (wt' := if lateIn late (setL l.length l1.reverse) = true then none else some k) fun k' hk' => ?_
      split at hk'
      · cases hk'
      · cases hk'
        subst hk
        refine ⟨fun b hb => ⟨hb.1, rfl⟩, fun i b hli hor hκ hb => ?_⟩
        rcases hor with hor | hor
        · exact hb.2 i (by have : δ'.ob i = some .row := hor; rw [hob] at this; exact this) hκ
        · obtain ⟨o, hli⟩ := hli
          rw [hob] at hli
          exact absurd (r.nx i ⟨o, hli⟩) (Nat.not_lt.2 hor))
    simpa using h3)
  have e : l1.length + (l.length - l1.length) = l.toArray.size := by simp; omega
  rw [e] at h2
  have e2 : setL l.length [] = Array.replicate l.toArray.size false := by simp [setL]
  rw [e2] at h2
  exact h2

end Go.Ab
