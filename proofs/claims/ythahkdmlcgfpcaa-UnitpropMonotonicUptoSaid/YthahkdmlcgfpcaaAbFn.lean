/- Contracts of functions over told values; entering a function, returning from it, calling by contract. -/
import Derived.Test.YthahkdmlcgfpcaaAbOps2
set_option linter.unusedSimpArgs false
set_option linter.unusedVariables false
namespace Go.Ab
open Go Go.RowKit
variable {P : Program} {g : Ghost} {δ : DS} {κ : Nat → Option Nat} {a : Act} {w : World}
variable {ops : Array Oper} {rest : List Oper} {Q : Exit → DS → Prop} {dst : Option Nat} {ty : TypeId} {pos : String} {af : Array Edge}

/-- Nothing of the walk's own: what is told leans on blocks of N alone. -/
def pcx (N : Nat → Prop) : Cx := { B := 0, κ := fun _ => none, N, Lr := fun _ => False, Lb := fun _ => False }

/-- Called with values that read as 'args' the function returns one that reads as 'r'; of what was there nothing has turned. -/
structure Fn (P : Program) (f : FuncId) (args : List AV) (r : AV) : Prop where
  enters : ∀ vals w, (callFunc f vals).run P w = .ok (.enter f vals) w
  calls : ∀ (N : Nat → Prop) (w : World) (vals : Array Value), (∀ b, w.heap.size ≤ b → N b) → vals.size = args.length →
    (∀ (j : Nat) (v : Value) (av : AV), vals[j]? = some v → args[j]? = some av → RA (pcx N) w v av) →
    Calls P f vals w fun e w' => ∃ v, e = .returned v ∧ RA (pcx N) w' v r ∧ Below w.heap.size w w'

theorem RA.of_pcx {N : Nat → Prop} {w : World} {v : Value} {av : AV} (h : RA (pcx N) w v av) (C : Cx) (hN : ∀ b, b < w.heap.size → N b → C.N b) : RA C w v av := by
  have hp : ∀ {v : Value} {p : PV}, RP N w v p → RP C.N w v p := fun h => h.mono (Nat.le_refl _) fun b h1 h2 => ⟨hN b h1 h2, rfl⟩
  induction h with
  | any v => exact .any v
  | pv h => exact .pv (hp h)
  | own h => exact h.live.elim
  | ptr hl hκ => exact hl.elim
  | rptr b off vs hN' hb hc hr => exact .rptr b off vs (hN b hb hN') hb hc (fun j p h => hp (hr j p h))
  | optr hi h => exact h.live.elim
  | agg hs h ih => exact .agg hs ih
  | tup hs h ih => exact .tup hs ih
  | clo hs h ht h' ih ih' => exact .clo hs ih ht ih'
  | mapr hl hκ => exact hl.elim
  | yld hl hκ => exact hl.elim

/-- How a told value is weakened on its way into a call or out of one. -/
inductive Le (ow : Bool) : AV → AV → Prop
  | any (v : AV) : Le ow v .any
  | pv (p : PV) : Le ow (.pv p) (.pv p)
  | nil (k : Nat) : Le ow (.pv (.lit (.slice none 0 0))) (.pv (.slice k []))
  | own (i e k els) (h : ow = true) : Le ow (.own i e k els) (.pv (.slice k els))
  | rptr (c : List PV) : Le ow (.rptr c) (.rptr c)
  | agg {cs ds : List AV} (hl : cs.length = ds.length) (h : ∀ (j : Nat) (c d : AV), cs[j]? = some c → ds[j]? = some d → Le ow c d) : Le ow (.agg cs) (.agg ds)
  | tup {cs ds : List AV} (hl : cs.length = ds.length) (h : ∀ (j : Nat) (c d : AV), cs[j]? = some c → ds[j]? = some d → Le ow c d) : Le ow (.tup cs) (.tup ds)

/-- a list of values, each weakened. -/
inductive LeL (ow : Bool) : List AV → List AV → Prop
  | nil : LeL ow [] []
  | cons {c d : AV} {cs ds : List AV} (h : Le ow c d) (hs : LeL ow cs ds) : LeL ow (c :: cs) (d :: ds)
theorem LeL.len {ow : Bool} {cs ds : List AV} (h : LeL ow cs ds) : cs.length = ds.length := by induction h with | nil => rfl | cons h hs ih => simp [ih]
theorem LeL.at {ow : Bool} {cs ds : List AV} (h : LeL ow cs ds) : ∀ (j : Nat) (c d : AV), cs[j]? = some c → ds[j]? = some d → Le ow c d := by
  induction h with
  | nil => intro j c d h1; simp at h1
  | cons h hs ih =>
    intro j c d h1 h2
    cases j with
    | zero => simp at h1 h2; subst h1; subst h2; exact h
    | succ j => exact ih j c d (by simpa using h1) (by simpa using h2)
theorem Le.aggL {ow : Bool} {cs ds : List AV} (h : LeL ow cs ds) : Le ow (.agg cs) (.agg ds) := .agg h.len h.at
theorem Le.tupL {ow : Bool} {cs ds : List AV} (h : LeL ow cs ds) : Le ow (.tup cs) (.tup ds) := .tup h.len h.at

theorem OwnV.pv {C : Cx} {w : World} {v : Value} {i e k els} (h : OwnV C w v i e k els) {N : Nat → Prop} (hN : ∀ b, b < w.heap.size → C.N b → N b) (hκ : ∀ i b, C.Lr i → C.κ i = some b → N b) : RP N w v (.slice k els) := by
  obtain ⟨hl, hlim, hk, hb, xs, ho, h1, hx⟩ := h
  have ho' := ho
  rcases ho.2 with ⟨rfl, h0⟩ | ⟨b, cap, cur, rfl, h2, h3, h4⟩
  · have : els = [] := List.eq_nil_of_length_eq_zero h0
    subst this
    exact .slice 0 0 (fun _ _ => undef) rfl (Nat.zero_le _) (by simp) (fun h => absurd rfl h) (by simp) (fun i j p h => by simp [cellAt] at h) (fun i j p h => by simp [cellAt] at h)
  · refine .slice b 0 (fun i j => (xs[i * k + j]?).getD undef) rfl h4.1 hlim (fun _ => ⟨rfl, hκ i b hl (hb b rfl), (Array.getElem?_eq_some_iff.1 h3).1⟩) hk (fun i j p hp => ?_) (fun i j p hp => ?_)
    · obtain ⟨u, hu, _⟩ := hx i j p hp
      have hlt : i * k + j < els.length * k := by have := (List.getElem?_eq_some_iff.1 hu).1; rw [← ho.1]; exact this
      simp only [hu, Option.getD_some, Nat.zero_add]
      exact ⟨(ho'.cellAt _ hlt).trans hu, h1 u (List.mem_of_getElem? hu)⟩
    · obtain ⟨u, hu, hr⟩ := hx i j p hp
      simp only [hu, Option.getD_some]
      exact hr.mono (Nat.le_refl _) fun b h1 h2 => ⟨hN b h1 h2, rfl⟩

theorem RA.le {ow : Bool} {C : Cx} {w : World} {v : Value} {av r : AV} (h : RA C w v av) (hle : Le ow av r) {N : Nat → Prop} (hN : ∀ b, b < w.heap.size → C.N b → N b) (hκ : ow = true → ∀ i b, C.Lr i → C.κ i = some b → N b) : RA (pcx N) w v r := by
  induction hle generalizing v with
  | any v => exact .any _
  | pv p => exact .pv (h.pv_inv.mono (Nat.le_refl _) fun b h1 h2 => ⟨hN b h1 h2, rfl⟩)
  | nil k => cases h.lit; exact .pv (.slice 0 0 (fun _ _ => undef) rfl (Nat.zero_le _) (by simp) (fun h => absurd rfl h) (by simp) (fun i j p h => by simp [cellAt] at h) (fun i j p h => by simp [cellAt] at h))
  | own i e k els how => exact .pv (h.own_inv.pv hN (hκ how))
  | rptr c =>
    cases h with
    | rptr b off vs hN' hb hc hr => exact .rptr b off vs (hN b hb hN') hb hc (fun j p h => (hr j p h).mono (Nat.le_refl _) fun b h1 h2 => ⟨hN b h1 h2, rfl⟩)
  | @agg cs ds hl _ ih =>
    cases h with
    | agg hs h =>
      refine .agg (hs.trans hl) fun j u d h1 h2 => ?_
      have hlt : j < cs.length := by rw [hl]; exact (List.getElem?_eq_some_iff.1 h2).1
      exact ih j _ d (List.getElem?_eq_getElem hlt) h2 (h j u _ h1 (List.getElem?_eq_getElem hlt))
  | @tup cs ds hl _ ih =>
    cases h with
    | tup hs h =>
      refine .tup (hs.trans hl) fun j u d h1 h2 => ?_
      have hlt : j < cs.length := by rw [hl]; exact (List.getElem?_eq_some_iff.1 h2).1
      exact ih j _ d (List.getElem?_eq_getElem hlt) h2 (h j u _ h1 (List.getElem?_eq_getElem hlt))

/-- a contract, in whatever frame. -/
theorem callsIn_any {ro : Option Nat} {f : FuncId} {vals : Array Value} {R : Ending → World → Prop} (h : Calls P f vals w R) : CallsIn (Fw ro) 0 P f vals w R := callsIn_wide.2 h

/-! ### calling by contract -/

/-- the operands' told values, weakened to the contract's. -/
inductive Args (ow : Bool) (δ : DS) : List Operand → List AV → Prop
  | nil : Args ow δ [] []
  | cons {x : Operand} {v : AV} {xs : List Operand} {vs : List AV} (ho : okT x = true) (h : Le ow (δ.ev x) v) (hs : Args ow δ xs vs) : Args ow δ (x :: xs) (v :: vs)

theorem Args.len {ow : Bool} {xs : List Operand} {vs : List AV} (h : Args ow δ xs vs) : xs.length = vs.length := by induction h with | nil => rfl | cons ho h hs ih => simp [ih]
theorem Args.at {ow : Bool} {xs : List Operand} {vs : List AV} (h : Args ow δ xs vs) : ∀ (j : Nat) (x : Operand) (v : AV), xs[j]? = some x → vs[j]? = some v → okT x = true ∧ Le ow (δ.ev x) v := by
  induction h with
  | nil => intro j x v h1; simp at h1
  | cons ho h hs ih =>
    intro j x v h1 h2
    cases j with
    | zero => simp at h1 h2; subst h1; subst h2; exact ⟨ho, h⟩
    | succ j => exact ih j x v (by simpa using h1) (by simpa using h2)

/-- a result that leans on no memory. -/
inductive Flat : AV → Prop
  | any : Flat .any
  | lit (v : Value) : Flat (.pv (.lit v))
  | tup {vs : List AV} (h : ∀ v ∈ vs, Flat v) : Flat (.tup vs)
  | agg {vs : List AV} (h : ∀ v ∈ vs, Flat v) : Flat (.agg vs)

theorem Flat.tup2 {a b : AV} (h1 : Flat a) (h2 : Flat b) : Flat (.tup [a, b]) := .tup (by simp [h1, h2])
theorem Flat.ra {v : AV} (hf : Flat v) {C C' : Cx} {w w' : World} {u : Value} (h : RA C w u v) : RA C' w' u v := by
  induction hf generalizing u with
  | any => exact .any _
  | lit v => rw [h.lit]; exact .pv (.lit _)
  | tup hv ih => cases h with | tup hs h => exact .tup hs fun j u c h1 h2 => ih c (List.mem_of_getElem? h2) (h j u c h1 h2)
  | agg hv ih => cases h with | agg hs h => exact .agg hs fun j u c h1 h2 => ih c (List.mem_of_getElem? h2) (h j u c h1 h2)

theorem run_call {x : Operand} {f : FuncId} {xs tys : Array _} {ρ : Operand → Value} (hx : ρ x = .func (.func f) #[] #[]) (he : ∀ vals w, (callFunc f vals).run P w = .ok (.enter f vals) w) (w : World) :
    (execOp ρ ⟨dst, .call { callee := .value x, args := xs, argTypes := tys }, ty, pos, af, none⟩).run P w = .ok (.enter f (xs.map ρ)) w := by
  simp [execOp, resolve, Deferred.ofValue, invoke, hx, he]

theorem Args.ras {ow : Bool} {xs : List Operand} {args : List AV} (h : Args ow δ xs args) (r : Rel g δ κ a w) {N : Nat → Prop} (hN : ∀ b, b < w.heap.size → (δ.cx g κ).N b → N b) (hκ : ow = true → ∀ i b, δ.lr i → κ i = some b → N b) :
    ∀ (j : Nat) (v : Value) (av : AV), (xs.toArray.map a.eval)[j]? = some v → args[j]? = some av → RA (pcx N) w v av := by
  intro j v av h1 h2
  simp only [List.map_toArray, List.getElem?_toArray, List.getElem?_map, Option.map_eq_some_iff] at h1
  obtain ⟨x, hx, rfl⟩ := h1
  obtain ⟨ho, hle⟩ := h.at j x av hx h2
  exact (r.evc x (okT_spec ho)).le hle hN hκ

mutual
def AV.det : AV → Bool
  | .pv (.lit _) => true
  | .agg cs => AV.detL cs
  | .tup cs => AV.detL cs
  | _ => false
def AV.detL : List AV → Bool
  | [] => true
  | c :: cs => c.det && AV.detL cs
end
theorem AV.detL_at : ∀ {l : List AV}, AV.detL l = true → ∀ (j : Nat) (c : AV), l[j]? = some c → c.det = true
  | [], _, j, c, h => by simp at h
  | x :: l, h, j, c, hj => by
    simp only [AV.detL, Bool.and_eq_true] at h
    cases j with
    | zero => simp at hj; subst hj; exact h.1
    | succ j => exact AV.detL_at h.2 j c (by simpa using hj)

theorem RA.det {C C' : Cx} {w w' : World} {u u' : Value} {av : AV} (h : RA C w u av) (h' : RA C' w' u' av) (hd : av.det = true) : u' = u := by
  induction h generalizing u' with
  | @pv v p h =>
    cases p with
    | any => simp [AV.det] at hd
    | lit v => cases h; exact h'.lit
    | slice => simp [AV.det] at hd
    | mp => simp [AV.det] at hd
  | @agg vs cs hs h ih =>
    cases h' with
    | @agg us _ hs' h' =>
      simp only [AV.det] at hd
      congr 1
      apply Array.ext (by omega)
      intro j h1 h2
      have hc : j < cs.length := by omega
      exact ih j _ _ (Array.getElem?_eq_getElem h2) (List.getElem?_eq_getElem hc) (h' j _ _ (Array.getElem?_eq_getElem h1) (List.getElem?_eq_getElem hc)) (AV.detL_at hd j _ (List.getElem?_eq_getElem hc))
  | @tup vs cs hs h ih =>
    cases h' with
    | @tup us _ hs' h' =>
      simp only [AV.det] at hd
      congr 1
      apply Array.ext (by omega)
      intro j h1 h2
      have hc : j < cs.length := by omega
      exact ih j _ _ (Array.getElem?_eq_getElem h2) (List.getElem?_eq_getElem hc) (h' j _ _ (Array.getElem?_eq_getElem h1) (List.getElem?_eq_getElem hc)) (AV.detL_at hd j _ (List.getElem?_eq_getElem hc))
  | _ => simp [AV.det] at hd

theorem Flat.of_det : ∀ {v : AV}, v.det = true → Flat v
  | .pv (.lit v), _ => .lit v
  | .agg cs, h => .agg (fun c hc => by
      obtain ⟨j, hj⟩ := List.getElem?_of_mem hc
      exact Flat.of_det (AV.detL_at (by simpa [AV.det] using h) j c hj))
  | .tup cs, h => .tup (fun c hc => by
      obtain ⟨j, hj⟩ := List.getElem?_of_mem hc
      exact Flat.of_det (AV.detL_at (by simpa [AV.det] using h) j c hj))
  | .pv .any, h | .pv (.slice _ _), h | .pv (.mp _), h | .any, h | .own _ _ _ _, h | .ptr _ _, h | .rptr _, h | .optr _ _ _ _ _, h | .clo _ _ _, h | .mapr _, h | .yld _, h => by simp [AV.det] at h

mutual
def AV.out : AV → Value
  | .pv (.lit v) => v
  | .agg cs => .agg (AV.outL cs).toArray
  | .tup cs => .tuple (AV.outL cs).toArray
  | _ => undef
def AV.outL : List AV → List Value
  | [] => []
  | c :: cs => c.out :: AV.outL cs
end
theorem AV.outL_eq : ∀ l : List AV, AV.outL l = l.map AV.out
  | [] => rfl
  | c :: cs => by simp [AV.outL, AV.outL_eq cs]

theorem AV.out_ra {C : Cx} {w : World} : ∀ {v : AV}, v.det = true → RA C w v.out v
  | .pv (.lit v), _ => .pv (.lit v)
  | .agg cs, h => by
    simp only [AV.out, AV.outL_eq]
    refine .agg (by simp) fun j u c h1 h2 => ?_
    simp only [List.getElem?_toArray, List.getElem?_map, h2, Option.map_some, Option.some.injEq] at h1
    subst h1
    have := List.mem_of_getElem? h2
    exact AV.out_ra (AV.detL_at (by simpa [AV.det] using h) j c h2)
  | .tup cs, h => by
    simp only [AV.out, AV.outL_eq]
    refine .tup (by simp) fun j u c h1 h2 => ?_
    simp only [List.getElem?_toArray, List.getElem?_map, h2, Option.map_some, Option.some.injEq] at h1
    subst h1
    have := List.mem_of_getElem? h2
    exact AV.out_ra (AV.detL_at (by simpa [AV.det] using h) j c h2)
  | .pv .any, h | .pv (.slice _ _), h | .pv (.mp _), h | .any, h | .own _ _ _ _, h | .ptr _ _, h | .rptr _, h | .optr _ _ _ _ _, h | .clo _ _ _, h | .mapr _, h | .yld _, h => by simp [AV.det] at h

/-- A call by contract whose result leans on no memory. -/
theorem AOps.call {q : Md} {f : FuncId} {xs : List Operand} {tys : Array TypeId} {args : List AV} {r : AV} (hf : Fn P f args r) (hargs : Args true δ xs args) (hdet : r.det = true) (hd : okD δ.n dst = true) (hq : q ≠ .held)
    (hK : AOps q P g ops rest Q (δ.putd dst r)) : AOps q P g ops (⟨dst, .call { callee := .value (.func f), args := xs.toArray, argTypes := tys }, ty, pos, af, none⟩ :: rest) Q δ := by
  intro κ a w r0
  have hc : ∀ w', Below w.heap.size w w' → Calls P f (xs.toArray.map a.eval) w' fun e w'' => e = .returned r.out ∧ Below w'.heap.size w' w'' := fun w' hw' =>
    (hf.calls (fun _ => True) w' _ (fun _ _ => trivial) (by simp [hargs.len]) (hargs.ras (r0.ext hw') (fun _ _ _ => trivial) (fun _ _ _ _ _ => trivial))).mono (by
      rintro e w'' ⟨v, rfl, hv, hb⟩
      exact ⟨by rw [hv.det (AV.out_ra (C := pcx (fun _ => True)) (w := w) hdet) hdet], hb⟩)
  have hK1 := hK κ _ _ (r0.putd (okD_spec hd) (AV.out_ra hdet))
  cases q with
  | quiet =>
    show wpQuiet P ops _ _ (_ :: rest) a
    unfold wpQuiet
    rw [if_pos (by simp [Region.wanted])]
    refine ⟨r.out, fun w' hw' => ?_, hK1⟩
    unfold Oper.quietAt
    rw [run_call (f := f) rfl hf.enters]
    exact ⟨rfl, (hc w' hw').mono fun e w'' ⟨h1, h2⟩ => ⟨h1, hw'.trans (h2.mono hw'.size)⟩⟩
  | held => exact absurd rfl hq
  | plain =>
    show wpListIn _ _ P ops _ (_ :: rest) a w
    refine wpl_plain rfl rfl fun K hK' => ?_
    unfold Oper.wpF
    rw [run_call (f := f) rfl hf.enters, Oper.uponIn_enter]
    refine ⟨fun h => by simp at h, (callsIn_any (hc w (Below.refl _ _))).mono ?_⟩
    rintro e w' ⟨rfl, hb⟩
    exact hK' _ _ (hK κ _ _ ((r0.ext hb).putd (okD_spec hd) (AV.out_ra hdet)))

/-- A call by contract that is handed no row of the walk's own. -/
theorem AOps.callp {f : FuncId} {xs : List Operand} {tys : Array TypeId} {args : List AV} {r : AV} (hf : Fn P f args r) (hargs : Args false δ xs args) (hd : okD δ.n dst = true)
    (hK : AOps .plain P g ops rest Q (δ.putd dst r)) : AOps .plain P g ops (⟨dst, .call { callee := .value (.func f), args := xs.toArray, argTypes := tys }, ty, pos, af, none⟩ :: rest) Q δ := by
  intro κ a w r0
  show wpListIn _ _ P ops _ (_ :: rest) a w
  refine wpl_plain rfl rfl fun K hK' => ?_
  unfold Oper.wpF
  rw [run_call (f := f) rfl hf.enters, Oper.uponIn_enter]
  refine ⟨fun h => by simp at h, (callsIn_any (hf.calls (fun b => (δ.cx g κ).N b ∨ w.heap.size ≤ b) w _ (fun _ h => .inr h) (by simp [hargs.len]) (hargs.ras r0 (fun _ _ h => .inl h) (fun h => by simp at h)))).mono ?_⟩
  rintro e w' ⟨v, rfl, hv, hb⟩
  have r1 := r0.ext hb
  refine hK' _ _ (hK κ _ _ (r1.putd (okD_spec hd) (hv.of_pcx _ fun b _ h => ?_)))
  rcases h with h | h
  · exact h
  · refine ⟨r0.N0 b (Nat.le_trans r0.hB h), fun i hi e => ?_⟩
    have := (r0.lo i b hi e).2
    omega

/-! ### entering a function, returning from it -/

def enum (i : Nat) : List AV → List (Nat × AV)
  | [] => []
  | v :: vs => (i, v) :: enum (i + 1) vs
theorem look_enum (l : List AV) : ∀ (i j : Nat) (v : AV), i ≤ j → l[j - i]? = some v → look (enum i l) j = v := by
  induction l with
  | nil => intro i j v _ h; simp at h
  | cons x l ih =>
    intro i j v hij h
    unfold enum
    rw [look_cons]
    by_cases e : i = j
    · subst e; simp at h; simp [h]
    · rw [if_neg e]
      refine ih (i + 1) j v (by omega) ?_
      have : j - i = (j - (i + 1)) + 1 := by omega
      rw [this] at h; simpa using h
theorem look_enum_out (l : List AV) : ∀ (i j : Nat), (j < i ∨ i + l.length ≤ j) → look (enum i l) j = .any := by
  induction l with
  | nil => intro i j _; rfl
  | cons x l ih =>
    intro i j h
    unfold enum
    simp only [List.length_cons] at h
    rw [look_cons, if_neg (by omega)]
    exact ih (i + 1) j (by omega)

def start (n : Nat) (args : List AV) : DS := { n, env := enum 0 args, objs := [], nx := 0 }

/-- What a result's variable holds. -/
inductive ResV (P : Program) (δ : DS) : ResultVar → AV → Prop
  | tmp {t : Tmp} {v : AV} (ht : Nat.blt t HS = true) (h : δ.get t = v) : ResV P δ (.tmp t) v
  | cell {t : Tmp} {ty : TypeId} {i : Nat} {cells : List AV} (ht : Nat.blt t HS = true) (h : δ.get t = .ptr i 0) (ho : δ.ob i = some (.box cells)) (hty : aggT P ty cells.length = true) : ResV P δ (.cell t ty) (.agg cells)
  | cell1 {t : Tmp} {ty : TypeId} {i : Nat} {v : AV} (ht : Nat.blt t HS = true) (h : δ.get t = .ptr i 0) (ho : δ.ob i = some (.box [v])) (hty : scalarT P ty = true) : ResV P δ (.cell t ty) v

def resRun (P : Program) (tmps : Array Value) : ResultVar → Sem Value
  | .tmp t => pure (tmps.getD t undef)
  | .cell a t => do loadVar t (← asAddr (tmps.getD a undef))

theorem Rel.box (r : Rel g δ κ a w) {u : Value} {i off : Nat} {cells : List AV} (h : RA (δ.cx g κ) w u (.ptr i off)) (ho : δ.ob i = some (.box cells)) :
    ∃ b c e, u = .pointer (some ⟨b, off, none⟩) ∧ κ i = some b ∧ w.heap[b]? = some (.cells c e (0, 0)) ∧ c.size = cells.length ∧ ∀ (j : Nat) (u : Value) (av : AV), c[j]? = some u → cells[j]? = some av → RA (δ.cx g κ) w u av ∧ u.oneCell' = true := by
  cases h with
  | @ptr _ _ b hl hκ =>
    obtain ⟨b', c, e, h1, h2, h3, h4⟩ := r.obj i _ ho
    have : b' = b := by have := h1.symm.trans hκ; simpa using this
    subst this
    exact ⟨b', c, e, rfl, h1, h2, h3, h4⟩

theorem cell_of {w : World} {b : Nat} {c : Array Value} {e : TypeId} (h : w.heap[b]? = some (.cells c e (0, 0))) (j : Nat) : w.cell? ⟨b, j, none⟩ = c[j]? := by simp [World.cell?, h]

theorem ResV.run {rv : ResultVar} {v : AV} (h : ResV P δ rv v) (r : Rel g δ κ a w) : ∃ u, (resRun P a.tmps rv).run P w = .ok u w ∧ RA (δ.cx g κ) w u v := by
  cases h with
  | @tmp t _ ht h =>
    have := r.env t
    unfold Ghost.val at this
    rw [if_pos (by simpa using ht), h] at this
    exact ⟨_, rfl, this⟩
  | @cell t ty i cells ht h ho hty =>
    have h0 := r.env t
    unfold Ghost.val at h0
    rw [if_pos (by simpa using ht), h] at h0
    obtain ⟨b, c, e, h1, h2, h3, h4, h5⟩ := r.box h0 ho
    have h6 := run_loadCells (P := P) (w := w) ⟨b, 0, none⟩ cells.length (fun j => c.getD j undef) (fun j hj => by
      rw [addr_add, cell_of h3, Nat.zero_add, Array.getElem?_eq_getElem (by omega)]
      rw [Array.getD_eq_getD_getElem?, Array.getElem?_eq_getElem (by omega)]; rfl)
    refine ⟨.agg ((List.range cells.length).map (fun j => c.getD j undef)).toArray, by simp only [resRun, h1, asAddr, loadVar, Sem.run_bind, Sem.run_pure, Result.andThen_ok, run_isAgg_agg hty, if_true, h6], .agg (by simp) (fun j u av h7 h8 => ?_)⟩
    have hlt := (List.getElem?_eq_some_iff.1 h8).1
    refine (h5 j u av ?_ h8).1
    simp only [List.getElem?_toArray, List.getElem?_map, Option.map_eq_some_iff] at h7
    obtain ⟨j', hj', rfl⟩ := h7
    have : j' = j := by
      rw [List.getElem?_eq_some_iff] at hj'
      obtain ⟨_, h⟩ := hj'
      simpa using h.symm
    subst this
    rw [Array.getD_eq_getD_getElem?, Array.getElem?_eq_getElem (by omega)]; rfl
  | @cell1 t ty i v ht h ho hty =>
    have h0 := r.env t
    unfold Ghost.val at h0
    rw [if_pos (by simpa using ht), h] at h0
    obtain ⟨b, c, e, h1, h2, h3, h4, h5⟩ := r.box h0 ho
    have hlt : 0 < c.size := by rw [h4]; simp
    have hc : w.cell? ⟨b, 0, none⟩ = some c[0] := by rw [cell_of h3, Array.getElem?_eq_getElem hlt]
    refine ⟨c[0], by simp [resRun, h1, asAddr, loadVar, run_isAgg_scalar hty, load, Sem.run, hc], (h5 0 _ _ (Array.getElem?_eq_getElem hlt) rfl).1⟩

/-- What the function hands back. -/
inductive Res (P : Program) (δ : DS) : List ResultVar → AV → Prop
  | one {r1 : ResultVar} {v : AV} (h : ResV P δ r1 v) : Res P δ [r1] v
  | none : Res P δ [] (.tup [])
  | two {r1 r2 : ResultVar} {v1 v2 : AV} (h1 : ResV P δ r1 v1) (h2 : ResV P δ r2 v2) : Res P δ [r1, r2] (.tup [v1, v2])
  | three {r1 r2 r3 : ResultVar} {v1 v2 v3 : AV} (h1 : ResV P δ r1 v1) (h2 : ResV P δ r2 v2) (h3 : ResV P δ r3 v3) : Res P δ [r1, r2, r3] (.tup [v1, v2, v3])

theorem ra_two {C : Cx} {w : World} {u1 u2 : Value} {v1 v2 : AV} (h1 : RA C w u1 v1) (h2 : RA C w u2 v2) : RA C w (.tuple #[u1, u2]) (.tup [v1, v2]) := by
  refine .tup rfl fun j u c h3 h4 => ?_
  match j with
  | 0 => simp at h3 h4; subst h3; subst h4; exact h1
  | 1 => simp at h3 h4; subst h3; subst h4; exact h2
  | j + 2 => simp at h4
theorem ra_three {C : Cx} {w : World} {u1 u2 u3 : Value} {v1 v2 v3 : AV} (h1 : RA C w u1 v1) (h2 : RA C w u2 v2) (h3 : RA C w u3 v3) : RA C w (.tuple #[u1, u2, u3]) (.tup [v1, v2, v3]) := by
  refine .tup rfl fun j u c h4 h5 => ?_
  match j with
  | 0 => simp at h4 h5; subst h4; subst h5; exact h1
  | 1 => simp at h4 h5; subst h4; subst h5; exact h2
  | 2 => simp at h4 h5; subst h4; subst h5; exact h3
  | j + 3 => simp at h5

theorem results_eq {fn : Func} {tmps : Array Value} : results fn tmps = (do let vs ← fn.results.mapM (resRun P tmps); pure (if h : vs.size = 1 then vs[0] else .tuple vs)) := by
  unfold results
  congr 1

theorem Res.run {fn : Func} {rs : List ResultVar} (hrs : fn.results = rs.toArray) {v : AV} (h : Res P δ rs v) (r : Rel g δ κ a w) : ∃ u, (results fn a.tmps).run P w = .ok u w ∧ RA (δ.cx g κ) w u v := by
  rw [results_eq (P := P), hrs]
  cases h with
  | none => exact ⟨.tuple #[], by simp [Array.mapM_eq_foldlM], .tup rfl (fun j u c h => by simp at h)⟩
  | one h =>
    obtain ⟨u, h1, h2⟩ := h.run r
    exact ⟨u, by simp [Array.mapM_eq_foldlM, h1], h2⟩
  | two h1 h2 =>
    obtain ⟨u1, h1, h3⟩ := h1.run r
    obtain ⟨u2, h2, h4⟩ := h2.run r
    exact ⟨.tuple #[u1, u2], by simp [Array.mapM_eq_foldlM, h1, h2], ra_two h3 h4⟩
  | three h1 h2 h3 =>
    obtain ⟨u1, h1, h4⟩ := h1.run r
    obtain ⟨u2, h2, h5⟩ := h2.run r
    obtain ⟨u3, h3, h6⟩ := h3.run r
    exact ⟨.tuple #[u1, u2, u3], by simp [Array.mapM_eq_foldlM, h1, h2, h3], ra_three h4 h5 h6⟩

/-- a mark's block is shut. -/
theorem Rel.shut (hwt : g.wt = none) (r : Rel g δ κ a w) {k : Nat} (hB : g.B ≤ k) (hk : w.heap[k]? = some (.deferred (some []))) {a' : Act} (ha : a'.tmps = a.tmps) (hd : Dfr g a' (w.putObj k (.deferred none))) : Rel g δ κ a' (w.putObj k (.deferred none)) := by
  have hoth : ∀ b, b ≠ k → (w.putObj k (.deferred none)).heap[b]? = w.heap[b]? := fun b hb => World.putObj_heap_other hb
  have hne : ∀ i b, δ.live i → κ i = some b → b ≠ k := by
    rintro i b ⟨o, ho⟩ hκ rfl
    have h0 := r.obj i o ho
    cases o with
    | row => obtain ⟨c, e, h1⟩ := h0 b hκ; rw [hk] at h1; cases h1
    | box cs => obtain ⟨b', c, e, h1, h2, _⟩ := h0; have : b' = b := Option.some.inj (h1.symm.trans hκ); subst this; rw [hk] at h2; cases h2
    | it l seen => obtain ⟨b', h1, h2⟩ := h0; have : b' = b := Option.some.inj (h1.symm.trans hκ); subst this; rcases h2 with ⟨_, h2⟩ | ⟨_, _, _, _, _, _, _, _, _, h2, _⟩ <;> (rw [hk] at h2; cases h2)
    | mp l => obtain ⟨b', c, e, h1, h2, _⟩ := h0; have : b' = b := Option.some.inj (h1.symm.trans hκ); subst this; rw [hk] at h2; cases h2
    | loop l tm ps asg body st => obtain ⟨b', c, h1, h2, _⟩ := h0; have : b' = b := Option.some.inj (h1.symm.trans hκ); subst this; rw [hk] at h2; cases h2
  -- a told value leans on cells alone: block k is none
  have hcell : ∀ off v, w.cell? ⟨k, off, none⟩ = some v → False := fun off v h => by simp [World.cell?, hk] at h
  have hrp : ∀ {N : Nat → Prop} {v : Value} {p : PV}, RP N w v p → RP N (w.putObj k (.deferred none)) v p := by
    intro N v p h
    induction h with
    | any v => exact .any v
    | lit v => exact .lit v
    | slice b off vs hl hcap hb ha hkk hc hr ih =>
      refine .slice b off vs hl hcap hb (fun he => ⟨(ha he).1, (ha he).2.1, by rw [World.putObj_size]; exact (ha he).2.2⟩) hkk (fun i j p hp => ⟨?_, (hc i j p hp).2⟩) ih
      have h1 := (hc i j p hp).1
      by_cases e : b = k
      · subst e; exact (hcell _ _ h1).elim
      · exact (World.cell?_of_block (w := w) (a := ⟨b, off + i * _ + j, none⟩) (hoth b e)).trans h1
    | mp b clock es hN hb hh hs hst hkk hr ih =>
      have e : b ≠ k := by rintro rfl; rw [hk] at hh; cases hh
      exact .mp b clock es hN (by rw [World.putObj_size]; exact hb) ((hoth b e).trans hh) hs hst hkk ih
  have hown : ∀ {v : Value} {i e k' els}, OwnV (δ.cx g κ) w v i e k' els → OwnV (δ.cx g κ) (w.putObj k (.deferred none)) v i e k' els := by
    intro v i e k' els h
    obtain ⟨hl, hlim, hk', hb, xs, ho, h1, hx⟩ := h
    refine ⟨hl, hlim, hk', hb, xs, ⟨ho.1, ?_⟩, h1, fun i' j p hp => let ⟨u, h1, h2⟩ := hx i' j p hp; ⟨u, h1, hrp h2⟩⟩
    rcases ho.2 with hn | ⟨b, cap, cur, rfl, h2, h3, h4⟩
    · exact .inl hn
    · exact .inr ⟨b, cap, cur, rfl, h2, (hoth b (hne i b (DS.lr_live hl) (hb b rfl))).trans h3, h4⟩
  have hra : ∀ {v : Value} {av : AV}, RA (δ.cx g κ) w v av → RA (δ.cx g κ) (w.putObj k (.deferred none)) v av := by
    intro v av h
    induction h with
    | any v => exact .any v
    | pv h => exact .pv (hrp h)
    | own h => exact .own (hown h)
    | ptr hl hκ => exact .ptr hl hκ
    | rptr b off vs hN hb hc hr =>
      refine .rptr b off vs hN (by rw [World.putObj_size]; exact hb) (fun j p hp => ⟨?_, (hc j p hp).2⟩) (fun j p hp => hrp (hr j p hp))
      have h1 := (hc j p hp).1
      by_cases e : b = k
      · subst e; exact (hcell _ _ h1).elim
      · exact (World.cell?_of_block (w := w) (a := ⟨b, off + j, none⟩) (hoth b e)).trans h1
    | optr hi h => exact .optr hi (hown h)
    | agg hs h ih => exact .agg hs ih
    | tup hs h ih => exact .tup hs ih
    | clo hs h ht h' ih ih' => exact .clo hs ih ht ih'
    | mapr hl hκ => exact .mapr hl hκ
    | yld hl hκ => exact .yld hl hκ
  exact
    { n := by rw [ha]; exact r.n, dfr := hd
      env := fun j => by have := r.env j; unfold Ghost.val at this ⊢; rw [ha]; exact hra this
      obj := fun i o h => by
        have h0 := r.obj i o h
        cases o with
        | row => intro b hb; obtain ⟨c, e, h1⟩ := h0 b hb; exact ⟨c, e, (hoth b (hne i b ⟨_, h⟩ hb)).trans h1⟩
        | box cs => obtain ⟨b, c, e, h1, h2, h3, h4⟩ := h0; exact ⟨b, c, e, h1, (hoth b (hne i b ⟨_, h⟩ h1)).trans h2, h3, fun j u av h5 h6 => ⟨hra (h4 j u av h5 h6).1, (h4 j u av h5 h6).2⟩⟩
        | it l seen =>
          obtain ⟨b, h1, h2⟩ := h0
          have hb := hne i b ⟨_, h⟩ h1
          rcases h2 with ⟨h2, h3⟩ | ⟨m, es, clock, h2, h3, h4, h5, h6, h7, h8, h9⟩
          · exact ⟨b, h1, .inl ⟨h2, (hoth b hb).trans h3⟩⟩
          · have hmk : m ≠ k := by rintro rfl; rw [hk] at h4; cases h4
            exact ⟨b, h1, .inr ⟨m, es, clock, h2, by rw [World.putObj_size]; exact h3, (hoth m hmk).trans h4, h5, h6, fun j e p h10 h11 => ⟨(h7 j e p h10 h11).1, hrp (h7 j e p h10 h11).2⟩, (hoth b hb).trans h8, h9⟩⟩
        | mp l => obtain ⟨b, es, clock, h1, h2, h3, h4⟩ := h0; exact ⟨b, es, clock, h1, (hoth b (hne i b ⟨_, h⟩ h1)).trans h2, ⟨h3.1, fun j e p h5 h6 => ⟨(h3.2 j e p h5 h6).1, hra (h3.2 j e p h5 h6).2⟩⟩, h4⟩
        | loop l tm ps asg body st => obtain ⟨b, lr, h1, h2, h3⟩ := h0; exact ⟨b, lr, h1, (hoth b (hne i b ⟨_, h⟩ h1)).trans h2, h3⟩
      inj := r.inj
      lo := fun i b h1 h2 => by rw [World.putObj_size]; exact r.lo i b h1 h2
      nx := r.nx
      wt := fun k hk => by rw [hwt] at hk; cases hk
      below := r.below.trans ⟨rfl, rfl, rfl, by rw [World.putObj_size]; exact Nat.le_refl _, fun b hb => hoth b (by omega)⟩
      hB := by rw [World.putObj_size]; exact r.hB
      N0 := r.N0 }

/-- the marks taken, the results read. -/
theorem leaves (hwt : g.wt = none) {fn : Func} {rs : List ResultVar} (hrs : fn.results = rs.toArray) {v : AV} (h : Res P δ rs v) {R : Ending → World → Prop} : ∀ {a : Act} {w : World}, Rel g δ κ a w →
    (∀ w2, Rel g δ κ { a with defers := [] } w2 → ∀ u, RA (δ.cx g κ) w2 u v → R (.returned u) w2) → LeavesInM Fence.wide 0 P fn a.tmps R a.defers .returning w := by
  intro a w r hR
  obtain ⟨ms, h1, h2, h3⟩ := r.dfr
  rw [h1]
  induction ms generalizing a w with
  | nil =>
    obtain ⟨u, h4, h5⟩ := h.run hrs r
    have ra : Rel g δ κ { a with defers := [] } w := { r with dfr := ⟨[], rfl, h2, h3⟩ }
    exact ⟨u, h4, hR w ra u h5⟩
  | cons m ms ih =>
    refine ⟨by simp, .inl ⟨m, _, rfl, run_takeDeferred (h3 m (by simp)).2, ?_⟩⟩
    have hm := h3 m (by simp)
    rw [List.cons_append] at h2
    have hnd := List.nodup_cons.1 h2
    have hkeep : ∀ k ∈ ms ++ g.mks, g.B ≤ k ∧ (w.putObj m (.deferred none)).heap[k]? = some (.deferred (some [])) := fun k hk =>
      ⟨(h3 k (by simp only [List.cons_append, List.mem_cons]; exact .inr hk)).1, by rw [World.putObj_heap_other (by intro e; subst e; exact hnd.1 hk)]; exact (h3 k (by simp only [List.cons_append, List.mem_cons]; exact .inr hk)).2⟩
    have hd : Dfr g { a with defers := ms.map fun r => ({ target := .collected r, args := #[] } : Deferred) } (w.putObj m (.deferred none)) := ⟨ms, rfl, hnd.2, hkeep⟩
    have r2 := r.shut hwt hm.1 hm.2 (a' := { a with defers := ms.map fun r => ({ target := .collected r, args := #[] } : Deferred) }) rfl hd
    have := ih (a := { a with defers := ms.map fun r => ({ target := .collected r, args := #[] } : Deferred) }) r2 (fun w2 r3 u hu => hR w2 r3 u hu) rfl hnd.2 hkeep
    exact this

/-- The function's end. -/
def Ends (P : Program) (rs : List ResultVar) (r : AV) : Exit → DS → Prop
  | .normal, δ | .ret, δ => ∃ v, Res P δ rs v ∧ Le true v r
  | _, _ => False

theorem Fn.enter {f : FuncId} {fn : Func} {c : Code} {rs : List ResultVar} {n : Nat} {args : List AV} {r : AV} (hf : P.funcs[f]? = some fn) (hb : fn.body = some c) (hrs : fn.results = rs.toArray) (hn : fn.ntmps = n) (hna : Nat.ble args.length n = true)
    (hna' : Nat.ble n HS = true) (he : (fn.name == "runtime.NumGoroutine") = false) (h : ∀ g : Ghost, g.ro = none → g.wt = none → AW P g c (Ends P rs r) (start n args)) : Fn P f args r := by
  refine ⟨fun vals w => by simp [callFunc, hf, hb]; simpa using he, fun N w vals hN hs hargs => ?_⟩
  have hle : args.length ≤ n := by simpa using hna
  have hnH : n ≤ HS := by simpa using hna'
  let g : Ghost := { B := w.heap.size, w0 := w, N0 := N, held := fun _ => undef, ro := none, mks := [], wt := none }
  have hnl : ∀ i, ¬ (start n args).live i := fun i ⟨o, h⟩ => by cases h
  refine callsIn_wide.1 (callsIn_of_wp_marks (n := 0) hf hb trivial (wpIn_mono (h g rfl rfl (fun _ => none) _ w ?_) ?_))
  · exact
    { n := by simp [hn, start]; omega
      dfr := ⟨[], rfl, by simp [g], by simp [g]⟩
      env := fun j => by
        by_cases hj : j < args.length
        · have h1 : (start n args).get j = args[j] := look_enum args 0 j _ (Nat.zero_le _) (by simp [hj])
          have h2 : g.val { tmps := vals ++ Array.replicate (fn.ntmps - vals.size) undef, defers := [] } j = vals[j]'(by omega) := by
            unfold Ghost.val
            rw [if_pos (by omega)]
            simp [Array.getD_eq_getD_getElem?, Array.getElem?_append, hs, hj]
          rw [h1, h2]
          exact (hargs j _ _ (Array.getElem?_eq_getElem (by omega)) (List.getElem?_eq_getElem hj)).of_pcx _ fun b _ h => ⟨h, fun i hi => absurd hi (hnl i)⟩
        · have h1 : (start n args).get j = .any := look_enum_out args 0 j (by omega)
          rw [h1]; exact .any _
      obj := fun i o h => by cases h
      inj := fun i j b h => absurd h (hnl i)
      lo := fun i b h => absurd h (hnl i)
      nx := fun i h => absurd h (hnl i)
      wt := fun k hk => by cases hk
      below := Below.refl _ _
      hB := Nat.le_refl _
      N0 := hN }
  · rintro e a' w' ⟨δ', κ', hq, r'⟩
    have fin : ∀ v, Res P δ' rs v → Le true v r → LeavesInM Fence.wide 0 P fn a'.tmps (fun e w' => ∃ v, e = .returned v ∧ RA (pcx N) w' v r ∧ Below w.heap.size w w') a'.defers .returning w' := by
      intro v h1 h2
      exact leaves (g := g) rfl hrs h1 r' (fun w2 r2 u hu => by
        exact ⟨u, rfl, hu.le h2 (fun b _ h => h.1) (fun _ i b hi hκ => hN b (r2.lo i b (DS.lr_live hi) hκ).1), r2.below⟩)
    cases e with
    | normal => obtain ⟨v, h1, h2⟩ := hq; exact fin v h1 h2
    | ret => obtain ⟨v, h1, h2⟩ := hq; exact fin v h1 h2
    | _ => exact hq.elim

end Go.Ab
