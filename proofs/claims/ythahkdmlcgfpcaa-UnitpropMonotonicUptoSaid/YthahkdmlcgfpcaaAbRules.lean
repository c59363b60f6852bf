/- The abstract states' laws: how a relation goes on over a slot's write, a new block, an extension of the world; the rules of the abstract weakest precondition. -/
import Derived.Test.YthahkdmlcgfpcaaAbCore
set_option linter.unusedSimpArgs false
set_option linter.unusedVariables false
namespace Go.Ab
open Go Go.RowKit
variable {P : Program} {g : Ghost} {δ : DS} {κ : Nat → Option Nat} {a : Act} {w : World}

theorem get_put (δ : DS) (d : Nat) (v : AV) (j : Nat) : (δ.put d v).get j = if d = j then v else δ.get j := look_cons _ _ _ _
theorem ob_setOb (δ : DS) (d : Nat) (v : Option Ob) (j : Nat) : (δ.setOb d v).ob j = if d = j then v else δ.ob j := lookOb_cons _ _ _ _
theorem ob_addOb (δ : DS) (o : Ob) (j : Nat) : (δ.addOb o).ob j = if δ.nx = j then some o else δ.ob j := lookOb_cons _ _ _ _

theorem Ghost.val_put (g : Ghost) (a : Act) (d : Nat) (v : Value) (j : Nat) (h : d < a.tmps.size) (hH : d < HS) : g.val (a.put (some d) v) j = if d = j then v else g.val a j := by
  unfold Ghost.val Act.put
  by_cases hj : j < HS
  · simp only [hj, if_true, Array.getD_eq_getD_getElem?, Array.getElem?_setIfInBounds]
    by_cases e : d = j
    · subst e; simp [h]
    · simp [e]
  · have : d ≠ j := by omega
    simp [hj, this]

theorem Rel.put (r : Rel g δ κ a w) {d : Nat} {v : Value} {av : AV} (hd : d < δ.n) (hH : d < HS) (h : RA (δ.cx g κ) w v av) : Rel g (δ.put d av) κ (a.put (some d) v) w where
  n := by have := r.n; simp only [Act.put, Array.size_setIfInBounds]; exact this
  dfr := by obtain ⟨rs, h1, h2, h3⟩ := r.dfr; exact ⟨rs, h1, h2, h3⟩
  env := fun j => by
    rw [get_put, g.val_put a d v j (by rw [r.n]; exact hd) hH]
    by_cases e : d = j
    · simp only [e, if_true]; exact h
    · simp only [e, if_false]; exact r.env j
  obj := r.obj
  inj := r.inj
  lo := r.lo
  nx := r.nx
  wt := r.wt
  below := r.below
  hB := r.hB
  N0 := r.N0

theorem Rel.putd (r : Rel g δ κ a w) {d : Option Nat} {v : Value} {av : AV} (hd : ∀ x, d = some x → x < δ.n ∧ x < HS) (h : RA (δ.cx g κ) w v av) : Rel g (δ.putd d av) κ (a.put d v) w := by
  cases d with
  | none => exact r
  | some x => exact r.put (hd x rfl).1 (hd x rfl).2 h

/-- the marks go on where their blocks lie as they lay. -/
theorem Dfr.goes {g : Ghost} {a : Act} {w w' : World} (h : Dfr g a w) (hb : ∀ r, g.B ≤ r → w.heap[r]? = some (.deferred (some [])) → w'.heap[r]? = w.heap[r]?) : Dfr g a w' := by
  obtain ⟨rs, h1, h2, h3⟩ := h
  exact ⟨rs, h1, h2, fun r hr => ⟨(h3 r hr).1, (hb r (h3 r hr).1 (h3 r hr).2).trans (h3 r hr).2⟩⟩
theorem wt_lt {k : World × (Nat → Prop) × Nat} {w : World} {b : Nat} (h : b < k.1.heap.size ∧ w.heap[b]? = k.1.heap[b]?) : b < w.heap.size := by
  have := h.2
  rw [Array.getElem?_eq_getElem h.1] at this
  exact (Array.getElem?_eq_some_iff.1 this).1
theorem heap_lt {w : World} {r : Nat} {o : Obj} (h : w.heap[r]? = some o) : r < w.heap.size := (Array.getElem?_eq_some_iff.1 h).1

theorem MapIs.goes {C C' : Cx} {w w' : World} (G : Goes C w C' w') {es : Array MapEntry} {l : List (Value × AV)} (h : MapIs C w es l) : MapIs C' w' es l :=
  ⟨h.1, fun j e p h1 h2 => ⟨(h.2 j e p h1 h2).1, G.ra (h.2 j e p h1 h2).2⟩⟩

/-- An object whose block is as it was. -/
theorem ObIs.goes {C C' : Cx} {w w' : World} (G : Goes C w C' w') {i : Nat} {o : Ob} (hκ : C'.κ i = C.κ i) (hb : ∀ b, C.κ i = some b → w'.heap[b]? = w.heap[b]?) (h : ObIs C w i o) : ObIs C' w' i o := by
  cases o with
  | row =>
    intro b hκ'
    rw [hκ] at hκ'
    obtain ⟨c, e, h1⟩ := h b hκ'
    exact ⟨c, e, (hb b hκ').trans h1⟩
  | box cells =>
    obtain ⟨b, c, e, h1, h2, h3, h4⟩ := h
    exact ⟨b, c, e, hκ.trans h1, (hb b h1).trans h2, h3, fun j u av h5 h6 => ⟨G.ra (h4 j u av h5 h6).1, (h4 j u av h5 h6).2⟩⟩
  | mp l =>
    obtain ⟨b, es, clock, h1, h2, h3, h4⟩ := h
    exact ⟨b, es, clock, hκ.trans h1, (hb b h1).trans h2, h3.goes G, h4⟩
  | it l seen =>
    obtain ⟨b, h1, h2⟩ := h
    exact ⟨b, hκ.trans h1, h2.mono G.size G.N (hb b h1)⟩
  | loop l tm ps asg body st =>
    obtain ⟨b, lr, h1, h2, h3⟩ := h
    exact ⟨b, lr, hκ.trans h1, (hb b h1).trans h2, h3⟩

theorem DS.lr_live {δ : DS} {i : Nat} (h : δ.lr i) : δ.live i := ⟨_, h⟩
theorem DS.lb_live {δ : DS} {i : Nat} (h : δ.lb i) : δ.live i := let ⟨o, h1, _⟩ := h; ⟨o, h1⟩

/-- The world has grown, all that lay there lies as it lay. -/
theorem Rel.ext (r : Rel g δ κ a w) {w' : World} (hb : Below w.heap.size w w') : Rel g δ κ a w' := by
  have G : Goes (δ.cx g κ) w (δ.cx g κ) w' :=
    { B := rfl, size := hb.size, N := fun b h1 h2 => ⟨h2, hb.block b h1⟩
      Lr := fun i hi => ⟨hi, rfl, fun b hκ => hb.block b (r.lo i b (DS.lr_live hi) hκ).2⟩
      Lb := fun i hi => ⟨hi, rfl⟩ }
  exact
    { n := r.n, dfr := r.dfr.goes fun k _ hk => hb.block k (heap_lt hk), env := fun j => G.ra (r.env j)
      obj := fun i o h => (r.obj i o h).goes G rfl (fun b hκ => hb.block b (r.lo i b ⟨o, h⟩ hκ).2)
      inj := r.inj, lo := fun i b h1 h2 => ⟨(r.lo i b h1 h2).1, Nat.lt_of_lt_of_le (r.lo i b h1 h2).2 hb.size⟩
      nx := r.nx, wt := fun k hk => ⟨fun b hkb => ⟨((r.wt k hk).1 b hkb).1, (hb.block b (wt_lt ((r.wt k hk).1 b hkb))).trans ((r.wt k hk).1 b hkb).2⟩, (r.wt k hk).2⟩, below := r.below.trans (hb.mono r.hB), hB := Nat.le_trans r.hB hb.size, N0 := r.N0 }

def upd (κ : Nat → Option Nat) (i : Nat) (b : Option Nat) : Nat → Option Nat := fun j => if i = j then b else κ j

/-- A new object, laid in a new block. -/
theorem Rel.grow (r : Rel g δ κ a w) (ob : Ob) (o : Obj)
    (hob : ∀ C, Goes (δ.cx g κ) w C (w.alloc o) → C.κ δ.nx = some w.heap.size → ObIs C (w.alloc o) δ.nx ob) :
    Rel g (δ.addOb ob) (upd κ δ.nx (some w.heap.size)) a (w.alloc o) ∧ Goes (δ.cx g κ) w ((δ.addOb ob).cx g (upd κ δ.nx (some w.heap.size))) (w.alloc o) := by
  have hold : ∀ k, k < w.heap.size → (w.alloc o).heap[k]? = w.heap[k]? := fun k hk => Below.heap_alloc w o k hk
  have hnl : ¬ δ.live δ.nx := fun h => Nat.lt_irrefl _ (r.nx _ h)
  have hne : ∀ i, δ.live i → δ.nx ≠ i := fun i h e => hnl (e ▸ h)
  have hlive : ∀ i, (δ.addOb ob).live i → i = δ.nx ∨ δ.live i := by
    intro i ⟨o', h⟩
    rw [ob_addOb] at h
    by_cases e : δ.nx = i
    · exact .inl e.symm
    · rw [if_neg e] at h; exact .inr ⟨o', h⟩
  have hsz : (w.alloc o).heap.size = w.heap.size + 1 := by show (w.heap.push o).size = _; simp
  have G : Goes (δ.cx g κ) w ((δ.addOb ob).cx g (upd κ δ.nx (some w.heap.size))) (w.alloc o) :=
    { B := rfl, size := by omega
      N := fun b h1 h2 => ⟨⟨h2.1, fun i hi => by
        show upd κ δ.nx (some w.heap.size) i ≠ some b
        rcases hlive i hi with rfl | hi
        · simp only [upd, if_true]; intro e; cases e; omega
        · simp only [upd, hne i hi, if_false]; exact h2.2 i hi⟩, hold b h1⟩
      Lr := fun i hi => by
        have hi' := hne i (DS.lr_live hi)
        refine ⟨?_, by show upd _ _ _ i = κ i; simp [upd, hi'], fun b hκ => hold b (r.lo i b (DS.lr_live hi) hκ).2⟩
        show (δ.addOb ob).ob i = _
        rw [ob_addOb, if_neg hi']; exact hi
      Lb := fun i hi => by
        have hi' := hne i (DS.lb_live hi)
        refine ⟨?_, by show upd _ _ _ i = κ i; simp [upd, hi']⟩
        obtain ⟨o', h1, h2⟩ := hi
        exact ⟨o', by rw [ob_addOb, if_neg hi']; exact h1, h2⟩ }
  refine ⟨?_, G⟩
  exact
    { n := r.n, dfr := r.dfr.goes fun k _ hk => hold k (heap_lt hk), env := fun j => G.ra (r.env j)
      obj := fun i o' h => by
        rw [ob_addOb] at h
        by_cases e : δ.nx = i
        · rw [if_pos e] at h; cases h; subst e
          exact hob _ G (by show upd _ _ _ _ = _; simp [upd])
        · rw [if_neg e] at h
          exact (r.obj i o' h).goes G (by show upd _ _ _ i = κ i; simp [upd, e]) (fun b hκ => hold b (r.lo i b ⟨o', h⟩ hκ).2)
      inj := fun i j b h1 h2 h3 h4 => by
        rcases hlive i h1 with rfl | h1
        · rcases hlive j h2 with rfl | h2
          · rfl
          · simp only [upd, if_true] at h3
            simp only [upd, hne j h2, if_false] at h4
            cases h3
            exact absurd (r.lo j _ h2 h4).2 (by omega)
        · rcases hlive j h2 with rfl | h2
          · simp only [upd, if_true] at h4
            simp only [upd, hne i h1, if_false] at h3
            cases h4
            exact absurd (r.lo i _ h1 h3).2 (by omega)
          · simp only [upd, hne i h1, hne j h2, if_false] at h3 h4
            exact r.inj i j b h1 h2 h3 h4
      lo := fun i b h1 h2 => by
        rw [hsz]
        rcases hlive i h1 with rfl | h1
        · simp only [upd, if_true] at h2; cases h2; exact ⟨r.hB, by omega⟩
        · simp only [upd, hne i h1, if_false] at h2
          have := r.lo i b h1 h2
          omega
      nx := fun i h => by
        show i < δ.nx + 1
        rcases hlive i h with rfl | h
        · omega
        · have := r.nx i h; omega
      wt := fun k hk => ⟨fun b hkb => ⟨((r.wt k hk).1 b hkb).1, (hold b (wt_lt ((r.wt k hk).1 b hkb))).trans ((r.wt k hk).1 b hkb).2⟩, fun i b hl hi hκ hkb => by
        rcases hlive i hl with rfl | hi'
        · simp only [upd, if_true] at hκ
          cases hκ
          exact absurd (wt_lt ((r.wt k hk).1 _ hkb)) (Nat.lt_irrefl _)
        · simp only [upd, hne i hi', if_false] at hκ
          refine (r.wt k hk).2 i b hi' ?_ hκ hkb
          refine hi.imp (fun hi => ?_) id
          have hi2 : (δ.addOb ob).ob i = some .row := hi
          rw [ob_addOb, if_neg (hne i hi')] at hi2
          exact hi2⟩
      below := r.below.alloc r.hB o
      hB := by rw [hsz]; have := r.hB; omega
      N0 := r.N0 }

/-! ### The abstract weakest precondition -/

def lift (g : Ghost) (Q : Exit → DS → Prop) : Exit → Act → World → Prop := fun e a w => ∃ δ κ, Q e δ ∧ Rel g δ κ a w

/-- the fence of a frame: a plain one, or that of a loop's round. -/
abbrev Fw (ro : Option Nat) : Fence := { fn := fun _ => True, depth := none, alive := false, round := ro }

def AW (P : Program) (g : Ghost) (c : Code) (Q : Exit → DS → Prop) (δ : DS) : Prop := ∀ κ a w, Rel g δ κ a w → c.wpIn (Fw g.ro) 0 P (lift g Q) a w

def thenD (next : DS → Prop) (Q : Exit → DS → Prop) : Exit → DS → Prop
  | .normal, δ => next δ
  | e, δ => Q e δ

def inBlockD (id : Nat) (Q : Exit → DS → Prop) : Exit → DS → Prop
  | .exit id', δ => if id' = id then Q .normal δ else Q (.exit id') δ
  | e, δ => Q e δ

theorem AW.mono {c : Code} {Q Q' : Exit → DS → Prop} (h : AW P g c Q δ) (hq : ∀ e δ, Q e δ → Q' e δ) : AW P g c Q' δ :=
  fun κ a w r => wpIn_mono (h κ a w r) fun _ _ _ ⟨δ', κ', h1, h2⟩ => ⟨δ', κ', hq _ _ h1, h2⟩

theorem AW.seq {x y : Code} {Q : Exit → DS → Prop} (h : AW P g x (thenD (AW P g y Q) Q) δ) : AW P g (.seq x y) Q δ := by
  intro κ a w r
  refine wpIn_seq (wpIn_mono (h κ a w r) fun e a' w' => ?_)
  rintro ⟨δ', κ', h1, h2⟩
  cases e with
  | normal => exact h1 κ' a' w' h2
  | _ => exact ⟨δ', κ', h1, h2⟩

theorem AW.skip {Q : Exit → DS → Prop} (h : Q .normal δ) : AW P g .skip Q δ := fun κ _ _ r => wpIn_skip ⟨δ, κ, h, r⟩
theorem AW.exit {id : Nat} {Q : Exit → DS → Prop} (h : Q (.exit id) δ) : AW P g (.exit id) Q δ := fun κ _ _ r => wpIn_exit ⟨δ, κ, h, r⟩
theorem AW.ret {Q : Exit → DS → Prop} (h : Q .ret δ) : AW P g .ret Q δ := fun κ _ _ r => wpIn_ret ⟨δ, κ, h, r⟩

theorem Rel.evc (r : Rel g δ κ a w) (x : Operand) (hx : ∀ t, x = .tmp t → t < HS) : RA (δ.cx g κ) w (a.eval x) (δ.ev x) := by
  cases x with
  | tmp t =>
    have := r.env t
    unfold Ghost.val at this
    rw [if_pos (hx t rfl)] at this
    exact this
  | const v => exact .pv (.lit v)
  | global n => exact .any _
  | func f => exact .clo rfl (fun j u c h => by simp at h) rfl (fun j u c h => by simp at h)

theorem RA.lit {C : Cx} {w : World} {v u : Value} (h : RA C w v (.pv (.lit u))) : v = u := by cases h with | pv h => cases h; rfl

def okT (x : Operand) : Bool := match x with | .tmp t => Nat.blt t HS | _ => true
theorem okT_spec {x : Operand} (h : okT x = true) : ∀ t, x = .tmp t → t < HS := by
  rintro t rfl; simpa [okT] using h

theorem AW.cond {c : Operand} {x y : Code} {t : Bool} {Q : Exit → DS → Prop} (ho : okT c = true) (hc : δ.ev c = .pv (.lit (.bool t))) (h1 : t = true → AW P g x Q δ) (h2 : t = false → AW P g y Q δ) : AW P g (.cond c x y) Q δ := by
  intro κ a w r
  have he := r.evc c (okT_spec ho)
  rw [hc] at he
  exact wpIn_cond_split he.lit (fun h => h1 h κ a w r) (fun h => h2 h κ a w r)

theorem AW.block {id : Nat} {c : Code} {Q : Exit → DS → Prop} (h : AW P g c (inBlockD id Q) δ) : AW P g (.block id c) Q δ := by
  intro κ a w r
  refine wpIn_block (wpIn_mono (h κ a w r) fun e a' w' => ?_)
  rintro ⟨δ', κ', h1, h2⟩
  cases e with
  | exit id' =>
    simp only [inBlockD] at h1
    show (if id' = id then _ else _)
    by_cases e : id' = id
    · rw [if_pos e] at h1 ⊢; exact ⟨δ', κ', h1, h2⟩
    · rw [if_neg e] at h1 ⊢; exact ⟨δ', κ', h1, h2⟩
  | _ => exact ⟨δ', κ', h1, h2⟩

theorem wp_loop_rel {F : Fence} {n0 : Nat} {c : Code} {Q : Exit → Act → World → Prop} (I : Nat → Act → World → Prop)
    (round : ∀ n a w, I n a w → c.wpIn F n0 P (Exit.then (fun a' w' => ∃ m, m < n ∧ I m a' w') Q) a w) {n : Nat} {a : Act} {w : World} (h0 : I n a w) : (Code.loop c).wpIn F n0 P Q a w := by
  intro b k cs hro hb hr
  have key : ∀ n a w, I n a w →
      ∃ e a' w', Q e a' w' ∧ ArrivesIn (Machine.fenced P F) P (lone (b.atR a (.code c :: .inLoop c :: k)) cs w) b k cs e a' w' := by
    intro n
    induction n using Nat.strongRecOn with
    | _ n ih =>
      intro a w hI
      obtain ⟨e, a₁, w₁, hq, harr⟩ := round n a w hI b (.inLoop c :: k) cs hro hb hr
      cases e with
      | normal =>
        obtain ⟨m, hlt, hI₁⟩ := hq
        obtain ⟨e₂, a₂, w₂, hq₂, harr₂⟩ := ih m hlt a₁ w₁ hI₁
        exact ⟨e₂, a₂, w₂, hq₂, .of_steps (StepsIn.trans harr (.one (fenced_calm hb hr rfl) stepR_inLoop)) harr₂⟩
      | exit id => exact ⟨_, a₁, w₁, hq, .pass (x := .inLoop c) rfl (fun _ _ => .inl (by simp)) harr⟩
      | goto l => exact ⟨_, a₁, w₁, hq, .pass (x := .inLoop c) rfl (fun _ _ => .inl (by simp)) harr⟩
      | ret => exact ⟨_, a₁, w₁, hq, .pass (x := .inLoop c) rfl (fun _ _ => .inl (by simp)) harr⟩
      | panic ch => exact ⟨_, a₁, w₁, hq, .pass (x := .inLoop c) rfl (fun _ _ => .inl (by simp)) harr⟩
      | outgrown => exact ⟨_, a₁, w₁, hq, .pass (x := .inLoop c) rfl (fun _ _ => .inl (by simp)) harr⟩
  obtain ⟨e, a', w', hq, harr⟩ := key _ a w h0
  exact ⟨e, a', w', hq, .of_steps (.one (fenced_calm hb hr rfl) stepR_loop) harr⟩

/-- One state says no more than another. -/
def Weak (g : Ghost) (δ δ' : DS) : Prop := ∀ κ a w, Rel g δ κ a w → ∃ κ', Rel g δ' κ' a w

theorem AW.weak {c : Code} {Q : Exit → DS → Prop} {δ' : DS} (hw : Weak g δ δ') (h : AW P g c Q δ') : AW P g c Q δ := fun κ a w r => let ⟨κ', r'⟩ := hw κ a w r; h κ' a w r'

theorem AW.loop {S : Type} {c : Code} {Q : Exit → DS → Prop} (D : S → DS) (I : S → Prop) (μ : S → Nat) (s0 : S) (hs : I s0) (hw : Weak g δ (D s0))
    (round : ∀ s, I s → AW P g c (thenD (fun δ' => ∃ s', I s' ∧ μ s' < μ s ∧ Weak g δ' (D s')) Q) (D s)) : AW P g (.loop c) Q δ := by
  intro κ a w r
  obtain ⟨κ0, r0⟩ := hw κ a w r
  refine wp_loop_rel (fun n a w => ∃ s κ, I s ∧ μ s = n ∧ Rel g (D s) κ a w) ?_ (n := μ s0) ⟨s0, κ0, hs, rfl, r0⟩
  rintro n a w ⟨s, κ, hI, rfl, hr⟩
  refine wpIn_mono (round s hI κ a w hr) fun e a' w' => ?_
  rintro ⟨δ', κ', h1, h2⟩
  cases e with
  | normal =>
    obtain ⟨s', hI', hm, hw'⟩ := h1
    obtain ⟨κ2, r2⟩ := hw' κ' a' w' h2
    exact ⟨μ s', hm, s', κ2, hI', rfl, r2⟩
  | _ => exact ⟨δ', κ', h1, h2⟩

/-! ### Regions -/

/-- an operation by its run: no defer statement. -/
def noDefer (o : Oper) : Bool := match o.op with | .defer _ => false | _ => true
def Oper.wpF (P : Program) (o : Oper) (F : Fence) (a : Act) (w : World) (K : Act → World → Prop) (Q : Exit → Act → World → Prop) : Prop := o.uponIn F 0 P a K Q ((execOp a.eval o).run P w)
theorem wpl_plain {ro : Option Nat} {ops : Array Oper} {Q : Exit → Act → World → Prop} {a : Act} {w : World} {rest : List Oper} {o : Oper} (hg : o.guard = none) (hd : noDefer o = true)
    (h : ∀ K : Act → World → Prop, (∀ a w, wpListIn (Fw ro) 0 P ops Q rest a w → K a w) → Oper.wpF P o (Fw ro) a w K Q) : wpListIn (Fw ro) 0 P ops Q (o :: rest) a w := by
  refine wpListIn_plain hg fun K hK => ⟨fun _ _ => trivial, ?_⟩
  have := h K hK
  unfold Oper.wpF at this
  rw [Oper.semAt_eq _ _ _ (by intro c e; simp [noDefer, e] at hd)]
  exact this

/-- How a list of operations is walked: in order; every one quiet over what only adds memory; quiet over what leaves all but the walk's own rows alone. -/
inductive Md where
  | plain
  | quiet
  | held
/-- the worlds over which a quiet operation yields the same. -/
def Held (δ : DS) (κ : Nat → Option Nat) (w w' : World) : Prop := ∀ b, b < w.heap.size → (∀ i, δ.lr i → κ i ≠ some b) → w'.heap[b]? = w.heap[b]?
theorem Held.of_below {δ : DS} {κ : Nat → Option Nat} {w w' : World} (h : Below w.heap.size w w') : Held δ κ w w' := fun b hb _ => h.block b hb
theorem Held.refl (δ : DS) (κ : Nat → Option Nat) (w : World) : Held δ κ w w := fun _ _ _ => rfl
theorem Held.cell {δ : DS} {κ : Nat → Option Nat} {w w' : World} (h : Held δ κ w w') {ad : Addr} (hb : ad.block < w.heap.size) (hn : ∀ i, δ.lr i → κ i ≠ some ad.block) : w'.cell? ad = w.cell? ad := World.cell?_of_block (w := w) (h ad.block hb hn)

/-- A list of operations, each of which yields in every world of the class and does nothing else. -/
def wpHeld (P : Program) (ops : Array Oper) (C : World → Prop) (Q : Act → Prop) : List Oper → Act → Prop
  | [], a => Q a
  | o :: rest, a => ∃ v, YieldsIf P ops C o v a ∧ wpHeld P ops C Q rest (a.put o.dst v)

def AOps (q : Md) (P : Program) (g : Ghost) (ops : Array Oper) (l : List Oper) (Q : Exit → DS → Prop) (δ : DS) : Prop := ∀ κ a w, Rel g δ κ a w →
  match q with
  | .quiet => wpQuiet P ops (fun w' => Below w.heap.size w w') (fun a' => ∀ w', Below w.heap.size w w' → lift g Q .normal a' w') l a
  | .held => wpHeld P ops (Held δ κ w) (fun a' => ∃ δ', Q .normal δ' ∧ δ'.objs = δ.objs ∧ Rel g δ' κ a' w) l a
  | .plain => wpListIn (Fw g.ro) 0 P ops (lift g Q) l a w

theorem AW.region {id : Nat} {l : List Oper} {Q : Exit → DS → Prop} (h : AOps .plain P g l.toArray l Q δ) : AW P g (.region id l.toArray false) Q δ := fun κ a w r => wpIn_region_lit (h κ a w r)
/-- no operation that makes or writes memory. -/
def quietB (o : Oper) : Bool := match o.op with
  | .alloc _ | .box _ _ | .buildSlice .. | .store .. | .makeMap .. | .makeSlice .. | .mapUpdate .. | .mapEntry .. | .entryStore .. | .insert .. => false
  | .call c => (match c.callee with | .builtin .append | .builtin .copy => false | _ => true)
  | _ => true
theorem AW.regionQ {id : Nat} {l : List Oper} {Q : Exit → DS → Prop} (_hl : l.all quietB = true) (hm : P.follows .mixedOrders = true) (hB : Region.lexB .any l.toArray = true) (hro : g.ro = none) (h : AOps .quiet P g l.toArray l Q δ) : AW P g (.region id l.toArray true) Q δ := by
  intro κ a w r
  have h1 := h κ a w r
  rw [hro]
  refine wpIn_wide.2 ?_
  refine wp_region_quiet (C := fun w' => Below w.heap.size w w') hm hB (Below.drew (Below.refl _ _)) ?_
  simpa using h1

theorem AOps.nil {q : Md} {ops : Array Oper} {Q : Exit → DS → Prop} (h : Q .normal δ) : AOps q P g ops [] Q δ := fun κ _ _ r => by
  cases q with
  | quiet => exact fun w' hw' => ⟨δ, κ, h, r.ext hw'⟩
  | held => exact ⟨δ, h, rfl, r⟩
  | plain => exact wpListIn_nil ⟨δ, κ, h, r⟩

def okD (n : Nat) (d : Option Nat) : Bool := match d with | some x => Nat.blt x n && Nat.blt x HS | none => true
theorem okD_spec {n : Nat} {d : Option Nat} (h : okD n d = true) : ∀ x, d = some x → x < n ∧ x < HS := by
  rintro x rfl
  simp only [okD, Bool.and_eq_true] at h
  exact ⟨by simpa using h.1, by simpa using h.2⟩

theorem putd_objs (δ : DS) (d : Option Nat) (v : AV) : (δ.putd d v).objs = δ.objs := by cases d <;> rfl
theorem putd_lr (δ : DS) (d : Option Nat) (v : AV) : (δ.putd d v).lr = δ.lr := by cases d <;> rfl

/-- An operation that yields a value and leaves the world as it was. -/
theorem AOps.val {q : Md} {ops : Array Oper} {o : Oper} {rest : List Oper} {Q : Exit → DS → Prop} (v : AV) (hg : o.guard = none) (hnd : noDefer o = true) (hd : okD δ.n o.dst = true)
    (h : ∀ κ a w, Rel g δ κ a w → ∃ u, (∀ w', Held δ κ w w' → (execOp a.eval o).run P w' = .ok (.value u) w') ∧ RA (δ.cx g κ) w u v) (hK : AOps q P g ops rest Q (δ.putd o.dst v)) : AOps q P g ops (o :: rest) Q δ := by
  intro κ a w r
  obtain ⟨u, h1, h2⟩ := h κ a w r
  have hK1 := hK κ _ _ (r.putd (okD_spec hd) h2)
  cases q with
  | quiet =>
    show wpQuiet P ops _ _ (o :: rest) a
    unfold wpQuiet
    rw [if_pos (by simp [Region.wanted, hg])]
    refine ⟨u, fun w' hw' => ?_, hK1⟩
    unfold Oper.quietAt
    rw [h1 w' (Held.of_below hw')]
    exact ⟨rfl, rfl⟩
  | held =>
    show wpHeld P ops _ _ (o :: rest) a
    refine ⟨u, .inl ⟨by simp [Region.wanted, hg], fun w' hw' => h1 w' hw'⟩, ?_⟩
    · have hH : Held (δ.putd o.dst v) κ w = Held δ κ w := by unfold Held; rw [putd_lr]
      simp only [hH, putd_objs] at hK1
      exact hK1
  | plain =>
    show wpListIn _ _ P ops _ (o :: rest) a w
    refine wpl_plain hg hnd fun K hK' => ?_
    unfold Oper.wpF
    rw [h1 w (Held.refl _ _ _), Oper.uponIn_value]
    exact hK' _ _ hK1

/-- The same, where it is the same only over what adds memory. -/
theorem AOps.valB {q : Md} {ops : Array Oper} {o : Oper} {rest : List Oper} {Q : Exit → DS → Prop} (v : AV) (hq : q ≠ .held) (hg : o.guard = none) (hnd : noDefer o = true) (hd : okD δ.n o.dst = true)
    (h : ∀ κ a w, Rel g δ κ a w → ∃ u, (∀ w', Below w.heap.size w w' → (execOp a.eval o).run P w' = .ok (.value u) w') ∧ RA (δ.cx g κ) w u v) (hK : AOps q P g ops rest Q (δ.putd o.dst v)) : AOps q P g ops (o :: rest) Q δ := by
  intro κ a w r
  obtain ⟨u, h1, h2⟩ := h κ a w r
  have hK1 := hK κ _ _ (r.putd (okD_spec hd) h2)
  cases q with
  | quiet =>
    show wpQuiet P ops _ _ (o :: rest) a
    unfold wpQuiet
    rw [if_pos (by simp [Region.wanted, hg])]
    refine ⟨u, fun w' hw' => ?_, hK1⟩
    unfold Oper.quietAt
    rw [h1 w' hw']
    exact ⟨rfl, rfl⟩
  | held => exact absurd rfl hq
  | plain =>
    show wpListIn _ _ P ops _ (o :: rest) a w
    refine wpl_plain hg hnd fun K hK' => ?_
    unfold Oper.wpF
    rw [h1 w (Below.refl _ _), Oper.uponIn_value]
    exact hK' _ _ hK1

/-- An operation with an effect: from one state to another. -/
def Eff (P : Program) (g : Ghost) (o : Oper) (δ δ' : DS) : Prop := ∀ κ a w, Rel g δ κ a w →
  (∃ x v w' κ', (execOp a.eval o).run P w = .ok x w' ∧ (x = .value v ∨ (x = .skip ∧ v = undef)) ∧ Rel g δ' κ' (a.put o.dst v) w') ∨
  (∃ f vals, (execOp a.eval o).run P w = .ok (.enter f vals) w ∧ Calls P f vals w fun e w' => ∃ v κ', e = .returned v ∧ Rel g δ' κ' (a.put o.dst v) w')

theorem AOps.eff {ops : Array Oper} {o : Oper} {rest : List Oper} {Q : Exit → DS → Prop} {δ' : DS} (hg : o.guard = none) (hnd : noDefer o = true) (h : Eff P g o δ δ') (hK : AOps .plain P g ops rest Q δ') : AOps .plain P g ops (o :: rest) Q δ := by
  intro κ a w r
  show wpListIn _ _ P ops _ (o :: rest) a w
  refine wpl_plain hg hnd fun K hK' => ?_
  unfold Oper.wpF
  rcases h κ a w r with ⟨x, v, w', κ', h1, h2, h3⟩ | ⟨f, vals, h1, h2⟩
  · rw [h1]
    rcases h2 with rfl | ⟨rfl, rfl⟩
    · rw [Oper.uponIn_value]; exact hK' _ _ (hK _ _ _ h3)
    · rw [Oper.uponIn_skip]; exact hK' _ _ (hK _ _ _ h3)
  · rw [h1, Oper.uponIn_enter]
    refine ⟨fun h => by simp at h, (callsIn_wide.2 h2).mono ?_⟩
    rintro e w' ⟨v, κ', rfl, h3⟩
    exact hK' _ _ (hK _ _ _ h3)

end Go.Ab
