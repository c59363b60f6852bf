/- The abstract states' laws where memory turns: variables in boxes, rows that grow or are stored into. -/
import Derived.Test.YthahkdmlcgfpcaaAbStep
set_option linter.unusedSimpArgs false
set_option linter.unusedVariables false
namespace Go.Ab
open Go Go.RowKit
variable {q : Md} {P : Program} {g : Ghost} {δ : DS} {κ : Nat → Option Nat} {a : Act} {w : World}
variable {ops : Array Oper} {rest : List Oper} {Q : Exit → DS → Prop} {dst : Option Nat} {ty : TypeId} {pos : String} {af : Array Edge}

/-! ### an object whose block turns -/

/-- w' is w but for block b and what is new. -/
structure Turns (w w' : World) (b : Option Nat) : Prop where
  os : w'.os = w.os
  tape : w'.tape = w.tape
  output : w'.output = w.output
  size : w.heap.size ≤ w'.heap.size
  block : ∀ k, k < w.heap.size → b ≠ some k → w'.heap[k]? = w.heap[k]?

theorem Turns.setCell (w : World) (ad : Addr) (u : Value) : Turns w (w.setCell ad u) (some ad.block) :=
  ⟨rfl, rfl, rfl, by simp [World.setCell], fun k _ h => Below.heap_setCell _ _ _ _ (fun e => h (by rw [e]))⟩
theorem Turns.grownBy {w w' : World} {row : Option Nat} (h : w.grownBy w' row) : Turns w w' row := ⟨h.os, h.tape, h.output, h.size, fun k hk hn => h.block k hk (Ne.symm hn)⟩
theorem Turns.setRow (w : World) (b : Nat) (c : Array Value) : Turns w (w.setRow b c) (some b) := ⟨rfl, rfl, rfl, by simp, fun k _ h => setRow_other w b k c (fun e => h (by rw [e]))⟩

theorem Rel.below_turn (r : Rel g δ κ a w) {w' : World} {b : Option Nat} (t : Turns w w' b) (hb : ∀ k, b = some k → g.B ≤ k) : Below g.B g.w0 w' :=
  r.below.trans ⟨t.os, t.tape, t.output, t.size, fun k hk => t.block k (Nat.lt_of_lt_of_le hk r.hB) (fun e => by have := hb k e; omega)⟩

/-- what is watched is no block of object i. -/
def Ghost.wtOk (g : Ghost) (i : Nat) : Prop := ∀ k, g.wt = some k → k.2.2 ≤ i
theorem wtOk_none (h : g.wt = none) (i : Nat) : g.wtOk i := fun k hk => by rw [h] at hk; cases hk

/-- A box or a map of the walk's own turns. -/
theorem Rel.modify (r : Rel g δ κ a w) {i b : Nat} {o o' : Ob} (ho : δ.ob i = some o) (hr : o.isRow = false) (hr' : o'.isRow = false) (hκ : κ i = some b) (hwk : g.wtOk i) {w' : World} (t : Turns w w' (some b)) (hs : w'.heap.size = w.heap.size)
    (hob : ∀ C, C.κ = κ → Goes (δ.cx g κ) w C w' → ObIs C w' i o') : Rel g (δ.setOb i (some o')) κ a w' ∧ Goes (δ.cx g κ) w ((δ.setOb i (some o')).cx g κ) w' := by
  have hi : δ.live i := ⟨o, ho⟩
  have hlive : ∀ j, (δ.setOb i (some o')).live j ↔ δ.live j := by
    intro j
    unfold DS.live
    rw [ob_setOb]
    by_cases e : i = j
    · subst e; simp [ho]
    · simp [e]
  have hlr : ∀ j, (δ.setOb i (some o')).lr j ↔ δ.lr j := by
    intro j
    unfold DS.lr
    rw [ob_setOb]
    by_cases e : i = j
    · subst e
      rw [if_pos rfl, ho]
      cases o <;> cases o' <;> simp_all [Ob.isRow]
    · simp [e]
  have hlb : ∀ j, (δ.setOb i (some o')).lb j ↔ δ.lb j := by
    intro j
    unfold DS.lb
    rw [ob_setOb]
    by_cases e : i = j
    · subst e
      rw [if_pos rfl, ho]
      exact ⟨fun _ => ⟨o, rfl, hr⟩, fun _ => ⟨o', rfl, hr'⟩⟩
    · simp [e]
  have hne : ∀ j, δ.lr j → κ j ≠ some b := by
    intro j hj e
    have := r.inj i j b hi (DS.lr_live hj) hκ e
    subst this
    have : some o = some Ob.row := ho.symm.trans hj
    cases this
    simp [Ob.isRow] at hr
  have G : Goes (δ.cx g κ) w ((δ.setOb i (some o')).cx g κ) w' :=
    { B := rfl, size := t.size
      N := fun k h1 h2 => ⟨⟨h2.1, fun j hj => h2.2 j ((hlive j).1 hj)⟩, t.block k h1 (fun e => h2.2 i hi (hκ.trans e))⟩
      Lr := fun j hj => ⟨(hlr j).2 hj, rfl, fun k hk => t.block k (r.lo j k (DS.lr_live hj) hk).2 (fun e => hne j hj (hk.trans e.symm))⟩
      Lb := fun j hj => ⟨(hlb j).2 hj, rfl⟩ }
  refine ⟨?_, G⟩
  exact
    { n := r.n
      dfr := r.dfr.goes fun k _ hk => t.block k (heap_lt hk) (fun e => by
        have : b = k := Option.some.inj e
        subst this
        have h0 := r.obj i o ho
        cases o with
        | row => simp [Ob.isRow] at hr
        | box cs => obtain ⟨b', c, e', h1, h2, _⟩ := h0; have : b' = b := Option.some.inj (h1.symm.trans hκ); subst this; rw [hk] at h2; cases h2
        | it l seen => obtain ⟨b', h1, h2⟩ := h0; have : b' = b := Option.some.inj (h1.symm.trans hκ); subst this; rcases h2 with ⟨_, h2⟩ | ⟨_, _, _, _, _, _, _, _, _, h2, _⟩ <;> (rw [hk] at h2; cases h2)
        | mp l => obtain ⟨b', c, e', h1, h2, _⟩ := h0; have : b' = b := Option.some.inj (h1.symm.trans hκ); subst this; rw [hk] at h2; cases h2
        | loop l tm ps asg body st => obtain ⟨b', c, h1, h2, _⟩ := h0; have : b' = b := Option.some.inj (h1.symm.trans hκ); subst this; rw [hk] at h2; cases h2)
      env := fun j => G.ra (r.env j)
      obj := fun j x h => by
        rw [ob_setOb] at h
        by_cases e : i = j
        · subst e; rw [if_pos rfl] at h; cases h; exact hob _ rfl G
        · rw [if_neg e] at h
          exact (r.obj j x h).goes G rfl (fun k hk => t.block k (r.lo j k ⟨x, h⟩ hk).2 (fun e' => e (r.inj i j k hi ⟨x, h⟩ (hκ.trans e') hk)))
      inj := fun i' j b h1 h2 => r.inj i' j b ((hlive i').1 h1) ((hlive j).1 h2)
      lo := fun j k h1 h2 => by have := r.lo j k ((hlive j).1 h1) h2; rw [hs]; exact this
      nx := fun j h => r.nx j ((hlive j).1 h)
      wt := fun k hk => ⟨fun b' hb' => ⟨((r.wt k hk).1 b' hb').1, (t.block b' (wt_lt ((r.wt k hk).1 b' hb')) (fun e => by
          cases e
          exact (r.wt k hk).2 i b hi (.inr (hwk k hk)) hκ hb')).trans ((r.wt k hk).1 b' hb').2⟩,
        fun j b' hj hj' hκ' => (r.wt k hk).2 j b' ((hlive j).1 hj) (hj'.imp (hlr j).1 id) hκ'⟩
      below := r.below_turn t (fun k e => by cases e; exact (r.lo i b hi hκ).1)
      hB := by rw [hs]; exact r.hB
      N0 := r.N0 }

mutual
def AV.mp (f : AV → AV) : AV → AV
  | .agg cs => .agg (AV.mpL f cs)
  | .tup cs => .tup (AV.mpL f cs)
  | .clo fn cs ds => .clo fn (AV.mpL f cs) (AV.mpL f ds)
  | .any => f .any
  | .pv p => .pv p
  | .own i e k els => f (.own i e k els)
  | .ptr i o => .ptr i o
  | .rptr c => .rptr c
  | .optr i e k els n => f (.optr i e k els n)
  | .mapr i => .mapr i
  | .yld i => .yld i
def AV.mpL (f : AV → AV) : List AV → List AV
  | [] => []
  | c :: cs => AV.mp f c :: AV.mpL f cs
end
theorem AV.mpL_eq (f : AV → AV) : ∀ l, AV.mpL f l = l.map (AV.mp f)
  | [] => rfl
  | c :: cs => by simp [AV.mpL, AV.mpL_eq f cs]

def Ob.mp' (f : AV → AV) : Ob → Ob
  | .row => .row
  | .box cs => .box (cs.map f)
  | .mp l => .mp l
  | .it l seen => .it l seen
  | .loop l tm ps asg body st => .loop l tm ps asg body st
def DS.mapV (δ : DS) (f : AV → AV) : DS := { δ with env := δ.env.map fun p => (p.1, f p.2), objs := δ.objs.map fun p => (p.1, p.2.map (Ob.mp' f)) }
theorem get_mapV (f : AV → AV) (hf : f .any = .any) (δ : DS) (j : Nat) : (δ.mapV f).get j = f (δ.get j) := by
  have : ∀ l : List (Nat × AV), look (l.map fun p => (p.1, f p.2)) j = f (look l j) := by
    intro l
    induction l with
    | nil => simp [look, hf]
    | cons x l ih =>
      obtain ⟨i, v⟩ := x
      simp only [List.map_cons, look_cons, ih]
      split <;> rfl
  exact this _
theorem ob_mapV (f : AV → AV) (δ : DS) (j : Nat) : (δ.mapV f).ob j = (δ.ob j).map (Ob.mp' f) := by
  have : ∀ l : List (Nat × Option Ob), lookOb (l.map fun p => (p.1, p.2.map (Ob.mp' f))) j = (lookOb l j).map (Ob.mp' f) := by
    intro l
    induction l with
    | nil => rfl
    | cons x l ih =>
      obtain ⟨i, v⟩ := x
      simp only [List.map_cons, lookOb_cons, ih]
      split <;> rfl
  exact this _

def Cx.less (C : Cx) (i : Nat) : Cx := { C with Lr := fun j => C.Lr j ∧ j ≠ i }

theorem RA.less {C : Cx} {i : Nat} {w : World} {v : Value} {av : AV} (h : RA C w v av) (hn : av.noOwn = true) : RA (C.less i) w v av := by
  cases h with
  | any v => exact .any v
  | pv h => exact .pv h
  | own h => simp [AV.noOwn] at hn
  | ptr hl hκ => exact .ptr hl hκ
  | rptr b off vs hN hb hc hr => exact .rptr b off vs hN hb hc hr
  | optr hi h => simp [AV.noOwn] at hn
  | agg hs h => simp [AV.noOwn] at hn
  | tup hs h => simp [AV.noOwn] at hn
  | clo hs h ht h' => simp [AV.noOwn] at hn
  | mapr hl hκ => exact .mapr hl hκ
  | yld hl hκ => exact .yld hl hκ

/-- A row of the walk's own turns. -/
theorem Rel.row (r : Rel g δ κ a w) {i : Nat} (ho : δ.ob i = some .row) {κ' : Nat → Option Nat} (hκ : ∀ j, j ≠ i → κ' j = κ j) {w' : World} (t : Turns w w' (κ i))
    (hi : ∀ b, κ' i = some b → (κ i = some b ∨ w.heap.size ≤ b) ∧ b < w'.heap.size ∧ ∃ c e, w'.heap[b]? = some (.cells c e (0, 0)))
    (f : AV → AV) (hfa : f .any = .any)
    (hf : Goes ((δ.cx g κ).less i) w ((δ.mapV f).cx g κ') w' → ∀ v av, RA (δ.cx g κ) w v av → RA ((δ.mapV f).cx g κ') w' v (f av)) :
    Rel g (δ.mapV f) κ' a w' ∧ Goes ((δ.cx g κ).less i) w ((δ.mapV f).cx g κ') w' := by
  have hil : δ.live i := ⟨_, ho⟩
  have hlive : ∀ j, (δ.mapV f).live j ↔ δ.live j := by
    intro j
    unfold DS.live
    rw [ob_mapV]
    cases δ.ob j <;> simp
  have hlr : ∀ j, (δ.mapV f).lr j ↔ δ.lr j := by
    intro j
    unfold DS.lr
    rw [ob_mapV]
    cases δ.ob j with
    | none => simp
    | some o => cases o <;> simp [Ob.mp']
  have hlb : ∀ j, (δ.mapV f).lb j ↔ δ.lb j := by
    intro j
    unfold DS.lb
    rw [ob_mapV]
    cases δ.ob j with
    | none => simp
    | some o => cases o <;> simp [Ob.mp', Ob.isRow]
  have hlbne : ∀ j, δ.lb j → j ≠ i := by
    rintro j ⟨o, h1, h2⟩ rfl
    rw [ho] at h1; cases h1; simp [Ob.isRow] at h2
  have hblk : ∀ j k, δ.live j → j ≠ i → κ j = some k → w'.heap[k]? = w.heap[k]? := fun j k hj hne hk =>
    t.block k (r.lo j k hj hk).2 (fun e => hne (r.inj j i k hj hil hk e))
  have G : Goes ((δ.cx g κ).less i) w ((δ.mapV f).cx g κ') w' :=
    { B := rfl, size := t.size
      N := fun k h1 h2 => by
        refine ⟨⟨h2.1, fun j hj e => ?_⟩, t.block k h1 (h2.2 i hil)⟩
        by_cases hji : j = i
        · subst hji
          rcases (hi k e).1 with h | h
          · exact h2.2 j hil h
          · omega
        · rw [hκ j hji] at e; exact h2.2 j ((hlive j).1 hj) e
      Lr := fun j hj => ⟨(hlr j).2 hj.1, hκ j hj.2, fun k hk => hblk j k (DS.lr_live hj.1) hj.2 hk⟩
      Lb := fun j hj => ⟨(hlb j).2 hj, hκ j (hlbne j hj)⟩ }
  refine ⟨?_, G⟩
  have F := hf G
  exact
    { n := r.n
      dfr := r.dfr.goes fun k _ hk => t.block k (heap_lt hk) (fun e => by
        obtain ⟨c, e', h1⟩ := r.obj i _ ho k e
        rw [hk] at h1; cases h1)
      env := fun j => by rw [get_mapV f hfa]; exact F _ _ (r.env j)
      obj := fun j x h => by
        rw [ob_mapV] at h
        cases ho' : δ.ob j with
        | none => rw [ho'] at h; simp at h
        | some o =>
          rw [ho'] at h
          simp only [Option.map_some, Option.some.injEq] at h
          subst h
          have h0 := r.obj j o ho'
          cases o with
          | row =>
            intro b hb
            by_cases hji : j = i
            · subst hji; exact (hi b hb).2.2
            · have hb' : κ j = some b := by rw [← hκ j hji]; exact hb
              obtain ⟨c, e, h1⟩ := h0 b hb'
              exact ⟨c, e, (hblk j b ⟨_, ho'⟩ hji hb').trans h1⟩
          | box cs =>
            obtain ⟨b, c, e, h1, h2, h3, h4⟩ := h0
            have hji : j ≠ i := hlbne j ⟨_, ho', rfl⟩
            refine ⟨b, c, e, (hκ j hji).trans h1, (hblk j b ⟨_, ho'⟩ hji h1).trans h2, by simpa using h3, fun k u av h5 h6 => ?_⟩
            simp only [List.getElem?_map, Option.map_eq_some_iff] at h6
            obtain ⟨av', h6, rfl⟩ := h6
            exact ⟨F _ _ (h4 k u av' h5 h6).1, (h4 k u av' h5 h6).2⟩
          | mp l =>
            obtain ⟨b, es, clock, h1, h2, h3, h4⟩ := h0
            have hji : j ≠ i := hlbne j ⟨_, ho', rfl⟩
            refine ⟨b, es, clock, (hκ j hji).trans h1, (hblk j b ⟨_, ho'⟩ hji h1).trans h2, ⟨h3.1, fun k e p h5 h6 => ?_⟩, h4⟩
            exact ⟨(h3.2 k e p h5 h6).1, G.ra ((h3.2 k e p h5 h6).2.less (h4.2 p (List.mem_of_getElem? h6)))⟩
          | it l seen =>
            obtain ⟨b, h1, h2⟩ := h0
            have hji : j ≠ i := hlbne j ⟨_, ho', rfl⟩
            exact ⟨b, (hκ j hji).trans h1, h2.mono G.size G.N (hblk j b ⟨_, ho'⟩ hji h1)⟩
          | loop l tm ps asg body st =>
            obtain ⟨b, lr, h1, h2, h3⟩ := h0
            have hji : j ≠ i := hlbne j ⟨_, ho', rfl⟩
            exact ⟨b, lr, (hκ j hji).trans h1, (hblk j b ⟨_, ho'⟩ hji h1).trans h2, h3⟩
      inj := fun i' j b h1 h2 h3 h4 => by
        rw [hlive] at h1 h2
        by_cases e1 : i' = i
        · by_cases e2 : j = i
          · rw [e1, e2]
          · subst e1
            rw [hκ j e2] at h4
            rcases (hi b h3).1 with h | h
            · exact r.inj i' j b h1 h2 h h4
            · exact absurd (r.lo j b h2 h4).2 (by omega)
        · by_cases e2 : j = i
          · subst e2
            rw [hκ i' e1] at h3
            rcases (hi b h4).1 with h | h
            · exact r.inj i' j b h1 h2 h3 h
            · exact absurd (r.lo i' b h1 h3).2 (by omega)
          · rw [hκ i' e1] at h3
            rw [hκ j e2] at h4
            exact r.inj i' j b h1 h2 h3 h4
      lo := fun j k h1 h2 => by
        rw [hlive] at h1
        by_cases e : j = i
        · subst e
          refine ⟨?_, (hi k h2).2.1⟩
          rcases (hi k h2).1 with h | h
          · exact (r.lo j k h1 h).1
          · exact Nat.le_trans r.hB h
        · rw [hκ j e] at h2
          have := r.lo j k h1 h2
          exact ⟨this.1, Nat.lt_of_lt_of_le this.2 t.size⟩
      nx := fun j h => r.nx j ((hlive j).1 h)
      wt := fun k hk => ⟨fun b' hb' => ⟨((r.wt k hk).1 b' hb').1, (t.block b' (wt_lt ((r.wt k hk).1 b' hb')) (fun e => (r.wt k hk).2 i b' hil (.inl ho) e hb')).trans ((r.wt k hk).1 b' hb').2⟩,
        fun j b' hj hj' hκ' hb' => by
          by_cases e : j = i
          · subst e
            rcases (hi b' hκ').1 with h | h
            · exact (r.wt k hk).2 j b' hil (.inl ho) h hb'
            · exact absurd (wt_lt ((r.wt k hk).1 b' hb')) (by omega)
          · rw [hκ j e] at hκ'
            exact (r.wt k hk).2 j b' ((hlive j).1 hj) (hj'.imp (hlr j).1 id) hκ' hb'⟩
      below := r.below_turn t (fun k e => (r.lo i k hil e).1)
      hB := Nat.le_trans r.hB t.size
      N0 := r.N0 }

/-- A row that has no block yet. -/
theorem Rel.adopt (r : Rel g δ κ a w) : Rel g (δ.addOb .row) (upd κ δ.nx none) a w ∧ Goes (δ.cx g κ) w ((δ.addOb .row).cx g (upd κ δ.nx none)) w := by
  have hnl : ¬ δ.live δ.nx := fun h => Nat.lt_irrefl _ (r.nx _ h)
  have hne : ∀ i, δ.live i → δ.nx ≠ i := fun i h e => hnl (e ▸ h)
  have hlive : ∀ i, (δ.addOb .row).live i → i = δ.nx ∨ δ.live i := by
    intro i ⟨o', h⟩
    rw [ob_addOb] at h
    by_cases e : δ.nx = i
    · exact .inl e.symm
    · rw [if_neg e] at h; exact .inr ⟨o', h⟩
  have hsome : ∀ i b, (δ.addOb .row).live i → upd κ δ.nx none i = some b → δ.live i ∧ κ i = some b := by
    intro i b hi h
    rcases hlive i hi with rfl | hi
    · simp [upd] at h
    · simp only [upd, hne i hi, if_false] at h; exact ⟨hi, h⟩
  have G : Goes (δ.cx g κ) w ((δ.addOb .row).cx g (upd κ δ.nx none)) w :=
    { B := rfl, size := Nat.le_refl _
      N := fun b h1 h2 => ⟨⟨h2.1, fun i hi e => let ⟨h3, h4⟩ := hsome i b hi e; h2.2 i h3 h4⟩, rfl⟩
      Lr := fun i hi => by
        have hi' := hne i (DS.lr_live hi)
        refine ⟨?_, by show upd _ _ _ i = κ i; simp [upd, hi'], fun b hκ => rfl⟩
        show (δ.addOb .row).ob i = _
        rw [ob_addOb, if_neg hi']; exact hi
      Lb := fun i hi => by
        have hi' := hne i (DS.lb_live hi)
        refine ⟨?_, by show upd _ _ _ i = κ i; simp [upd, hi']⟩
        obtain ⟨o', h1, h2⟩ := hi
        exact ⟨o', by rw [ob_addOb, if_neg hi']; exact h1, h2⟩ }
  refine ⟨?_, G⟩
  exact
    { n := r.n, dfr := r.dfr, env := fun j => G.ra (r.env j)
      obj := fun i o' h => by
        rw [ob_addOb] at h
        by_cases e : δ.nx = i
        · rw [if_pos e] at h; cases h; subst e
          intro b hb
          exact absurd hb (by show upd _ _ _ _ ≠ _; simp [upd])
        · rw [if_neg e] at h
          exact (r.obj i o' h).goes G (by show upd _ _ _ i = κ i; simp [upd, e]) (fun b hκ => rfl)
      inj := fun i j b h1 h2 h3 h4 => let ⟨h5, h6⟩ := hsome i b h1 h3; let ⟨h7, h8⟩ := hsome j b h2 h4; r.inj i j b h5 h7 h6 h8
      lo := fun i b h1 h2 => let ⟨h5, h6⟩ := hsome i b h1 h2; r.lo i b h5 h6
      nx := fun i h => by
        show i < δ.nx + 1
        rcases hlive i h with rfl | h
        · omega
        · have := r.nx i h; omega
      wt := fun k hk => ⟨(r.wt k hk).1, fun i b hi hi' hκ hb => by
        obtain ⟨h5, h6⟩ := hsome i b hi hκ
        refine (r.wt k hk).2 i b h5 (hi'.imp (fun h => ?_) id) h6 hb
        have h7 : (δ.addOb .row).ob i = some .row := h
        rw [ob_addOb, if_neg (hne i h5)] at h7
        exact h7⟩
      below := r.below
      hB := r.hB
      N0 := r.N0 }

/-! ### the change of the told values -/

def killF (i : Nat) : AV → AV
  | .own j e k els => bif Nat.beq i j then .any else .own j e k els
  | .optr j e k els n => bif Nat.beq i j then .any else .optr j e k els n
  | v => v
def AV.kill (i : Nat) : AV → AV := AV.mp (killF i)
/-- a store into row i -/
def storF (i n : Nat) (c : List PV) : AV → AV
  | .own j e k els => bif Nat.beq i j then .own j e k (els.set n c) else .own j e k els
  | .optr j e k els m => bif Nat.beq i j then .optr j e k (els.set n c) m else .optr j e k els m
  | v => v
def AV.stor (i n : Nat) (c : List PV) : AV → AV := AV.mp (storF i n c)

theorem beq_ne {i j : Nat} (h : i ≠ j) : Nat.beq i j = false := by cases hh : Nat.beq i j with | false => rfl | true => exact absurd (Nat.eq_of_beq_eq_true hh) h
theorem beq_self (i : Nat) : Nat.beq i i = true := Nat.beq_refl i

/-- a general law on 'mp': rows other than i go on by G; row i by hand. -/
theorem RA.mp {C C' : Cx} {i : Nat} {w w' : World} (G : Goes (C.less i) w C' w') {f : AV → AV}
    (hany : f .any = .any)
    (hoth : ∀ j e k els, j ≠ i → f (.own j e k els) = .own j e k els) (hoth' : ∀ j e k els n, j ≠ i → f (.optr j e k els n) = .optr j e k els n)
    (hown : ∀ v e k els, OwnV C w v i e k els → RA C' w' v (f (.own i e k els))) (hoptr : ∀ b cap e k els n, n < els.length → OwnV C w (.slice (some ⟨b, 0, none⟩) els.length cap) i e k els → RA C' w' (.pointer (some ⟨b, n * k, none⟩)) (f (.optr i e k els n)))
    {v : Value} {av : AV} (h : RA C w v av) : RA C' w' v (av.mp f) := by
  have hless : ∀ {v j e k els}, OwnV C w v j e k els → j ≠ i → OwnV (C.less i) w v j e k els := fun h hj => ⟨⟨h.live, hj⟩, h.lim, h.hk, h.blk, h.row⟩
  induction h with
  | any v => simp only [AV.mp, hany]; exact .any v
  | pv h => exact .pv (G.rp h)
  | @own v j e k els h =>
    simp only [AV.mp]
    by_cases hj : j = i
    · subst hj; exact hown v e k els h
    · rw [hoth j e k els hj]; exact .own (G.ownV (hless h hj))
  | ptr hl hκ => exact .ptr (G.Lb _ hl).1 ((G.Lb _ hl).2.trans hκ)
  | rptr b off vs hN hb hc hr => exact G.ra (C := C.less i) (.rptr b off vs hN hb hc hr)
  | @optr j e k els n b cap hn h =>
    simp only [AV.mp]
    by_cases hj : j = i
    · subst hj; exact hoptr b cap e k els n hn h
    · rw [hoth' j e k els n hj]; exact .optr hn (G.ownV (hless h hj))
  | @agg vs cs hs h ih =>
    simp only [AV.mp, AV.mpL_eq]
    refine .agg (by simpa using hs) fun j u c h1 h2 => ?_
    simp only [List.getElem?_map, Option.map_eq_some_iff] at h2
    obtain ⟨c', h2, rfl⟩ := h2
    exact ih j u c' h1 h2
  | @tup vs cs hs h ih =>
    simp only [AV.mp, AV.mpL_eq]
    refine .tup (by simpa using hs) fun j u c h1 h2 => ?_
    simp only [List.getElem?_map, Option.map_eq_some_iff] at h2
    obtain ⟨c', h2, rfl⟩ := h2
    exact ih j u c' h1 h2
  | @clo fn vs us cs ds hs h ht h' ih ih' =>
    simp only [AV.mp, AV.mpL_eq]
    refine .clo (by simpa using hs) (fun j u c h1 h2 => ?_) (by simpa using ht) (fun j u c h1 h2 => ?_)
    · simp only [List.getElem?_map, Option.map_eq_some_iff] at h2
      obtain ⟨c', h2, rfl⟩ := h2
      exact ih j u c' h1 h2
    · simp only [List.getElem?_map, Option.map_eq_some_iff] at h2
      obtain ⟨c', h2, rfl⟩ := h2
      exact ih' j u c' h1 h2
  | mapr hl hκ => exact .mapr (G.Lb _ hl).1 ((G.Lb _ hl).2.trans hκ)
  | yld hl hκ => exact .yld (G.Lb _ hl).1 ((G.Lb _ hl).2.trans hκ)

theorem RA.kill {C C' : Cx} {i : Nat} {w w' : World} (G : Goes (C.less i) w C' w') {v : Value} {av : AV} (h : RA C w v av) : RA C' w' v (av.kill i) := by
  refine h.mp G rfl (fun j e k els hj => ?_) (fun j e k els n hj => ?_) (fun v e k els _ => ?_) (fun b cap e k els n _ _ => ?_)
  · simp only [killF, beq_ne (Ne.symm hj)]; rfl
  · simp only [killF, beq_ne (Ne.symm hj)]; rfl
  · simp only [killF, beq_self]; exact .any _
  · simp only [killF, beq_self]; exact .any _

end Go.Ab
