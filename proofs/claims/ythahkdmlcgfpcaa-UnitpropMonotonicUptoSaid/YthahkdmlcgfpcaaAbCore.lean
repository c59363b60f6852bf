/- A small logic of abstract states over the model's weakest preconditions: what a function's slots, variables and rows hold, told without addresses. -/
import Derived.WalkKit
import Derived.Below
import Derived.Deep.Quiet
import Derived.OrdersHeld
import Derived.Laws.OwnMore
import Derived.RangeFuncIn
import Derived.RangeFuncRecord
import Derived.RangeFuncLeaves
import Derived.RangeFuncCalls
import Derived.TacticsIn
set_option linter.unusedSimpArgs false
set_option linter.unusedVariables false
namespace Go.Ab
open Go Go.RowKit

/-- A value told whole: a cell's literal, or a slice by its elements, each by its cells. -/
inductive PV where
  | any
  | lit (v : Value)
  | slice (k : Nat) (els : List (List PV))
  | mp (l : List (Value × PV))

/-- no entry was ever taken out: an entry's stamp is its place. -/
def Stamps (es : Array MapEntry) (clock : Nat) : Prop := clock = es.size ∧ ∀ (j : Nat) (e : MapEntry), es[j]? = some e → e.born = j

def cellAt (els : List (List PV)) (i j : Nat) : Option PV := (els[i]?).bind (·[j]?)

def lim : Nat := 140737488355328

/-- 'In world w the value v reads as p, by blocks of N alone.' -/
inductive RP (N : Nat → Prop) (w : World) : Value → PV → Prop
  | any (v : Value) : RP N w v .any
  | lit (v : Value) : RP N w v (.lit v)
  | slice {a : Option Addr} {len cap k : Nat} {els : List (List PV)} (b off : Nat) (vs : Nat → Nat → Value) (hl : els.length = len) (hcap : len ≤ cap) (hb : len ≤ 140737488355328)
      (ha : els ≠ [] → a = some ⟨b, off, none⟩ ∧ N b ∧ b < w.heap.size) (hk : ∀ c ∈ els, c.length = k)
      (hc : ∀ i j p, cellAt els i j = some p → w.cell? ⟨b, off + i * k + j, none⟩ = some (vs i j) ∧ (vs i j).oneCell' = true)
      (hr : ∀ i j p, cellAt els i j = some p → RP N w (vs i j) p) : RP N w (.slice a len cap) (.slice k els)
  | mp {l : List (Value × PV)} (b clock : Nat) (es : Array MapEntry) (hN : N b) (hb : b < w.heap.size) (hh : w.heap[b]? = some (.map es clock)) (hs : es.size = l.length) (hst : Stamps es clock)
      (hk : ∀ (j : Nat) (e : MapEntry) (p : Value × PV), es[j]? = some e → l[j]? = some p → e.key = p.1)
      (hr : ∀ (j : Nat) (e : MapEntry) (p : Value × PV), es[j]? = some e → l[j]? = some p → RP N w e.val p.2) : RP N w (.map (some b)) (.mp l)

theorem cellAt_ne {els : List (List PV)} {i j : Nat} {p : PV} (h : cellAt els i j = some p) : els ≠ [] := by
  intro e; subst e; simp [cellAt] at h

theorem RP.mono {N N' : Nat → Prop} {w w' : World} {v : Value} {p : PV} (h : RP N w v p) (hs : w.heap.size ≤ w'.heap.size)
    (hN : ∀ b, b < w.heap.size → N b → N' b ∧ w'.heap[b]? = w.heap[b]?) : RP N' w' v p := by
  induction h with
  | any v => exact .any v
  | lit v => exact .lit v
  | slice b off vs hl hcap hb ha hk hc hr ih =>
    refine .slice b off vs hl hcap hb (fun he => ?_) hk (fun i j p hp => ?_) ih
    · obtain ⟨h1, h2, h3⟩ := ha he
      exact ⟨h1, (hN b h3 h2).1, Nat.lt_of_lt_of_le h3 hs⟩
    · obtain ⟨h1, h2, h3⟩ := ha (cellAt_ne hp)
      exact ⟨(World.cell?_of_block (w := w) (a := ⟨b, off + i * _ + j, none⟩) (hN b h3 h2).2).trans (hc i j p hp).1, (hc i j p hp).2⟩
  | mp b clock es hN' hb hh hs' hst hk hr ih => exact .mp b clock es (hN b hb hN').1 (Nat.lt_of_lt_of_le hb hs) ((hN b hb hN').2.trans hh) hs' hst hk ih

/-- What a slot or a cell is known to hold. -/
inductive AV where
  | any
  | pv (p : PV)
  | own (i : Nat) (e : TypeId) (k : Nat) (els : List (List PV))
  | ptr (i : Nat) (off : Nat)
  | rptr (cells : List PV)
  | optr (i : Nat) (e : TypeId) (k : Nat) (els : List (List PV)) (idx : Nat)
  | agg (cs : List AV)
  | tup (vs : List AV)
  | clo (fn : Fn) (first : List AV) (cap : List AV)
  | mapr (i : Nat)
  | yld (i : Nat)

/-- What is fixed in a walk: B: the heap's size at the call; w0: the world at the call; N0: blocks that may be leaned on; the values of the frames above. -/
structure Ghost where
  B : Nat
  w0 : World
  N0 : Nat → Prop
  held : Nat → Value
  ro : Option Nat
  mks : List Nat
  wt : Option (World × (Nat → Prop) × Nat)

/-- Where a loop over a function stands. -/
inductive LpSt where
  | ready
  | busy
  | done (c : Code)
  | over

inductive Ob where
  | row
  | box (cells : List AV)
  | mp (es : List (Value × AV))
  | it (l : List (Value × PV)) (seen : List Nat)
  | loop (l : Nat) (tm : Array Value) (ps : Array Tmp) (asg body : Code) (st : LpSt)

structure DS where
  n : Nat
  env : List (Nat × AV)
  objs : List (Nat × Option Ob)
  nx : Nat

def look (e : List (Nat × AV)) (j : Nat) : AV :=
  match e with
  | [] => .any
  | (i, v) :: r => bif Nat.beq i j then v else look r j
def lookOb (e : List (Nat × Option Ob)) (j : Nat) : Option Ob :=
  match e with
  | [] => none
  | (i, v) :: r => bif Nat.beq i j then v else lookOb r j
def DS.get (δ : DS) (j : Nat) : AV := look δ.env j
def DS.ob (δ : DS) (i : Nat) : Option Ob := lookOb δ.objs i
def DS.put (δ : DS) (d : Nat) (v : AV) : DS := { δ with env := (d, v) :: δ.env }
def DS.putd (δ : DS) (d : Option Nat) (v : AV) : DS := match d with | some d => δ.put d v | none => δ
def DS.setOb (δ : DS) (i : Nat) (o : Option Ob) : DS := { δ with objs := (i, o) :: δ.objs }
def DS.addOb (δ : DS) (o : Ob) : DS := { δ with objs := (δ.nx, some o) :: δ.objs, nx := δ.nx + 1 }
def DS.ev (δ : DS) : Operand → AV
  | .tmp t => δ.get t
  | .const v => .pv (.lit v)
  | .global _ => .any
  | .func f => .clo (.func f) [] []

theorem look_cons (i : Nat) (v : AV) (e : List (Nat × AV)) (j : Nat) : look ((i, v) :: e) j = if i = j then v else look e j := by
  by_cases h : i = j
  · subst h; simp [look]
  · have hb : Nat.beq i j = false := by cases hh : Nat.beq i j with | false => rfl | true => exact absurd (Nat.eq_of_beq_eq_true hh) h
    rw [if_neg h]
    show (bif Nat.beq i j then v else look e j) = _
    rw [hb]; rfl
theorem lookOb_cons (i : Nat) (v : Option Ob) (e : List (Nat × Option Ob)) (j : Nat) : lookOb ((i, v) :: e) j = if i = j then v else lookOb e j := by
  by_cases h : i = j
  · subst h; simp [lookOb]
  · have hb : Nat.beq i j = false := by cases hh : Nat.beq i j with | false => rfl | true => exact absurd (Nat.eq_of_beq_eq_true hh) h
    rw [if_neg h]
    show (bif Nat.beq i j then v else lookOb e j) = _
    rw [hb]; rfl

/-- The predicates under which a value is told: rows (Lr) and variables or maps (Lb) of the walk's own; their blocks. -/
structure Cx where
  B : Nat
  κ : Nat → Option Nat
  N : Nat → Prop
  Lr : Nat → Prop
  Lb : Nat → Prop

/-- the row's facts: value v is a slice over row i with these elements. -/
structure OwnV (C : Cx) (w : World) (v : Value) (i : Nat) (e : TypeId) (k : Nat) (els : List (List PV)) : Prop where
  live : C.Lr i
  lim : els.length ≤ 140737488355328
  hk : ∀ c ∈ els, c.length = k
  blk : ∀ b, v.ownBlock = some b → C.κ i = some b
  row : ∃ xs, w.ownsRow C.B e k v els.length xs ∧ (∀ u ∈ xs, u.oneCell' = true) ∧ ∀ i' j p, cellAt els i' j = some p → ∃ u, xs[i' * k + j]? = some u ∧ RP C.N w u p

inductive RA (C : Cx) (w : World) : Value → AV → Prop
  | any (v : Value) : RA C w v .any
  | pv {v : Value} {p : PV} (h : RP C.N w v p) : RA C w v (.pv p)
  | own {v : Value} {i : Nat} {e : TypeId} {k : Nat} {els : List (List PV)} (h : OwnV C w v i e k els) : RA C w v (.own i e k els)
  | ptr {i off b : Nat} (hl : C.Lb i) (hκ : C.κ i = some b) : RA C w (.pointer (some ⟨b, off, none⟩)) (.ptr i off)
  | rptr {cells : List PV} (b off : Nat) (vs : Nat → Value) (hN : C.N b) (hb : b < w.heap.size) (hc : ∀ (j : Nat) (p : PV), cells[j]? = some p → w.cell? ⟨b, off + j, none⟩ = some (vs j) ∧ (vs j).oneCell' = true)
      (hr : ∀ (j : Nat) (p : PV), cells[j]? = some p → RP C.N w (vs j) p) : RA C w (.pointer (some ⟨b, off, none⟩)) (.rptr cells)
  | optr {i : Nat} {e : TypeId} {k : Nat} {els : List (List PV)} {idx b cap : Nat} (hi : idx < els.length) (h : OwnV C w (.slice (some ⟨b, 0, none⟩) els.length cap) i e k els) :
      RA C w (.pointer (some ⟨b, idx * k, none⟩)) (.optr i e k els idx)
  | agg {vs : Array Value} {cs : List AV} (hs : vs.size = cs.length) (h : ∀ (j : Nat) (u : Value) (c : AV), vs[j]? = some u → cs[j]? = some c → RA C w u c) : RA C w (.agg vs) (.agg cs)
  | tup {vs : Array Value} {cs : List AV} (hs : vs.size = cs.length) (h : ∀ (j : Nat) (u : Value) (c : AV), vs[j]? = some u → cs[j]? = some c → RA C w u c) : RA C w (.tuple vs) (.tup cs)
  | clo {fn : Fn} {vs us : Array Value} {cs ds : List AV} (hs : vs.size = cs.length) (h : ∀ (j : Nat) (u : Value) (c : AV), vs[j]? = some u → cs[j]? = some c → RA C w u c)
      (ht : us.size = ds.length) (h' : ∀ (j : Nat) (u : Value) (c : AV), us[j]? = some u → ds[j]? = some c → RA C w u c) : RA C w (.func fn vs us) (.clo fn cs ds)
  | mapr {i b : Nat} (hl : C.Lb i) (hκ : C.κ i = some b) : RA C w (.map (some b)) (.mapr i)
  | yld {i b : Nat} (hl : C.Lb i) (hκ : C.κ i = some b) : RA C w (.func (.yield b) #[] #[]) (.yld i)

/-- How a context and a world may go on without any told value turning false. -/
structure Goes (C : Cx) (w : World) (C' : Cx) (w' : World) : Prop where
  B : C'.B = C.B
  size : w.heap.size ≤ w'.heap.size
  N : ∀ b, b < w.heap.size → C.N b → C'.N b ∧ w'.heap[b]? = w.heap[b]?
  Lr : ∀ i, C.Lr i → C'.Lr i ∧ C'.κ i = C.κ i ∧ ∀ b, C.κ i = some b → w'.heap[b]? = w.heap[b]?
  Lb : ∀ i, C.Lb i → C'.Lb i ∧ C'.κ i = C.κ i

theorem Goes.rp {C C' : Cx} {w w' : World} (g : Goes C w C' w') {v : Value} {p : PV} (h : RP C.N w v p) : RP C'.N w' v p := h.mono g.size g.N

theorem Goes.ownV {C C' : Cx} {w w' : World} (g : Goes C w C' w') {v : Value} {i : Nat} {e : TypeId} {k : Nat} {els : List (List PV)} (h : OwnV C w v i e k els) : OwnV C' w' v i e k els := by
  obtain ⟨hl, hlim, hk, hb, xs, ho, h1, hx⟩ := h
  obtain ⟨l1, l2, l3⟩ := g.Lr i hl
  refine ⟨l1, hlim, hk, fun b hv => l2.trans (hb b hv), xs, ?_, h1, fun i' j p hp => ?_⟩
  · rw [g.B]
    refine ⟨ho.1, ?_⟩
    rcases ho.2 with hn | ⟨b, cap, cur, rfl, h2, h3, h4⟩
    · exact .inl hn
    · exact .inr ⟨b, cap, cur, rfl, h2, (l3 b (hb b rfl)).trans h3, h4⟩
  · obtain ⟨u, h1, h2⟩ := hx i' j p hp
    exact ⟨u, h1, g.rp h2⟩

theorem Goes.ra {C C' : Cx} {w w' : World} (g : Goes C w C' w') {v : Value} {av : AV} (h : RA C w v av) : RA C' w' v av := by
  induction h with
  | any v => exact .any v
  | pv h => exact .pv (g.rp h)
  | own h => exact .own (g.ownV h)
  | ptr hl hκ => exact .ptr (g.Lb _ hl).1 ((g.Lb _ hl).2.trans hκ)
  | rptr b off vs hN hb hc hr =>
    obtain ⟨h1, h2⟩ := g.N b hb hN
    exact .rptr b off vs h1 (Nat.lt_of_lt_of_le hb g.size) (fun j p hp => ⟨(World.cell?_of_block (w := w) (a := ⟨b, off + j, none⟩) h2).trans (hc j p hp).1, (hc j p hp).2⟩) (fun j p hp => g.rp (hr j p hp))
  | optr hi h => exact .optr hi (g.ownV h)
  | agg hs h ih => exact .agg hs ih
  | tup hs h ih => exact .tup hs ih
  | clo hs h ht h' ih ih' => exact .clo hs ih ht ih'
  | mapr hl hκ => exact .mapr (g.Lb _ hl).1 ((g.Lb _ hl).2.trans hκ)
  | yld hl hκ => exact .yld (g.Lb _ hl).1 ((g.Lb _ hl).2.trans hκ)

def Ob.isRow : Ob → Bool | .row => true | _ => false
def DS.lr (δ : DS) (i : Nat) : Prop := δ.ob i = some .row
def DS.lb (δ : DS) (i : Nat) : Prop := ∃ o, δ.ob i = some o ∧ o.isRow = false
def DS.live (δ : DS) (i : Nat) : Prop := ∃ o, δ.ob i = some o
def DS.cx (δ : DS) (g : Ghost) (κ : Nat → Option Nat) : Cx :=
  { B := g.B, κ, N := fun b => g.N0 b ∧ ∀ i, δ.live i → κ i ≠ some b, Lr := δ.lr, Lb := δ.lb }

def HS : Nat := 1000
def Ghost.val (g : Ghost) (a : Act) (j : Nat) : Value := if j < HS then a.tmps.getD j undef else g.held j

def MapIs (C : Cx) (w : World) (es : Array MapEntry) (l : List (Value × AV)) : Prop :=
  es.size = l.length ∧ ∀ (j : Nat) (e : MapEntry) (p : Value × AV), es[j]? = some e → l[j]? = some p → e.key = p.1 ∧ RA C w e.val p.2

/-- nothing in it is a slice over a row of the walk's own. -/
def AV.noOwn : AV → Bool
  | .own _ _ _ _ | .optr _ _ _ _ _ | .agg _ | .tup _ | .clo _ _ _ => false
  | _ => true

/-- An iterator over a map that is told: which entries it has handed out. -/
def ItIs (N : Nat → Prop) (w : World) (b : Nat) (l : List (Value × PV)) (seen : List Nat) : Prop :=
  (l = [] ∧ w.heap[b]? = some (.mapIter none 0 #[] 0)) ∨ ∃ m es clock, N m ∧ m < w.heap.size ∧ w.heap[m]? = some (.map es clock) ∧ es.size = l.length ∧ Stamps es clock ∧
    (∀ (j : Nat) (e : MapEntry) (p : Value × PV), es[j]? = some e → l[j]? = some p → e.key = p.1 ∧ RP N w e.val p.2) ∧ w.heap[b]? = some (.mapIter (some m) clock seen.toArray clock) ∧ ∀ j ∈ seen, j < l.length
theorem ItIs.mono {N N' : Nat → Prop} {w w' : World} {b : Nat} {l : List (Value × PV)} {seen : List Nat} (h : ItIs N w b l seen) (hs : w.heap.size ≤ w'.heap.size)
    (hN : ∀ b, b < w.heap.size → N b → N' b ∧ w'.heap[b]? = w.heap[b]?) (hb : w'.heap[b]? = w.heap[b]?) : ItIs N' w' b l seen := by
  rcases h with ⟨h1, h2⟩ | ⟨m, es, clock, h1, h2, h3, h4, h5, h6, h7, h8⟩
  · exact .inl ⟨h1, hb.trans h2⟩
  · exact .inr ⟨m, es, clock, (hN m h2 h1).1, Nat.lt_of_lt_of_le h2 hs, (hN m h2 h1).2.trans h3, h4, h5, fun j e p h9 h10 => ⟨(h6 j e p h9 h10).1, (h6 j e p h9 h10).2.mono hs hN⟩, hb.trans h7, h8⟩

/-- what an object of the walk's own is in memory. -/
def ObIs (C : Cx) (w : World) (i : Nat) : Ob → Prop
  | .row => ∀ b, C.κ i = some b → ∃ c e, w.heap[b]? = some (.cells c e (0, 0))
  | .box cells => ∃ b c e, C.κ i = some b ∧ w.heap[b]? = some (.cells c e (0, 0)) ∧ c.size = cells.length ∧ ∀ (j : Nat) (u : Value) (av : AV), c[j]? = some u → cells[j]? = some av → RA C w u av ∧ u.oneCell' = true
  | .mp l => ∃ b es clock, C.κ i = some b ∧ w.heap[b]? = some (.map es clock) ∧ MapIs C w es l ∧ Stamps es clock ∧ ∀ p ∈ l, p.2.noOwn = true
  | .it l seen => ∃ b, C.κ i = some b ∧ ItIs C.N w b l seen
  | .loop l tm ps asg body st => ∃ b r, C.κ i = some b ∧ w.heap[b]? = some (.loop r) ∧ b = l ∧ r.tmps = tm ∧ r.params = ps ∧ r.assign = asg ∧ r.body = body ∧
      (match st with | .ready => r.state = .ready ∧ r.pending = none | .busy => r.state = .busy | .done c => r.state = .done ∧ r.pending = some c | .over => True)

/-- The marks of loops over functions among the deferred calls. -/
def Dfr (g : Ghost) (a : Act) (w : World) : Prop := ∃ rs : List Nat, a.defers = rs.map (fun r => ({ target := .collected r, args := #[] } : Deferred)) ∧ (rs ++ g.mks).Nodup ∧ ∀ r ∈ rs ++ g.mks, g.B ≤ r ∧ w.heap[r]? = some (.deferred (some []))

structure Rel (g : Ghost) (δ : DS) (κ : Nat → Option Nat) (a : Act) (w : World) : Prop where
  n : a.tmps.size = δ.n
  dfr : Dfr g a w
  env : ∀ j, RA (δ.cx g κ) w (g.val a j) (δ.get j)
  obj : ∀ i o, δ.ob i = some o → ObIs (δ.cx g κ) w i o
  inj : ∀ i j b, δ.live i → δ.live j → κ i = some b → κ j = some b → i = j
  lo : ∀ i b, δ.live i → κ i = some b → g.B ≤ b ∧ b < w.heap.size
  nx : ∀ i, δ.live i → i < δ.nx
  wt : ∀ k, g.wt = some k → (∀ b, k.2.1 b → b < k.1.heap.size ∧ w.heap[b]? = k.1.heap[b]?) ∧ ∀ i b, δ.live i → (δ.lr i ∨ k.2.2 ≤ i) → κ i = some b → ¬ k.2.1 b
  below : Below g.B g.w0 w
  hB : g.B ≤ w.heap.size
  N0 : ∀ b, g.B ≤ b → g.N0 b

end Go.Ab
