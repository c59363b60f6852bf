/- A loop's state told by what stays of the state before it and what changes. -/
import Derived.Test.YtjglejfhbehfbaaDoorAbL2
import Derived.Sort.Row
import Derived.Sort.Grow
import Derived.Lib.AppendZeros
set_option linter.unusedSimpArgs false
set_option linter.unusedVariables false
namespace Go.Ab
open Go Go.RowKit
variable {P : Program} {g : Ghost} {δ : DS}
def selE (e : List (Nat × AV)) : List Nat → List (Nat × AV)
  | [] => []
  | k :: ks => (k, look e k) :: selE e ks
def selO (o : List (Nat × Option Ob)) : List Nat → List (Nat × Option Ob)
  | [] => []
  | k :: ks => (k, lookOb o k) :: selO o ks
/-- room for the told objects' numbers. -/
def nxUp : List (Nat × Option Ob) → Nat → Nat
  | [], n => n
  | (k, _) :: r, n => nxUp r (bif Nat.ble n k then k + 1 else n)
namespace Nf
theorem nx0 (n : Nat) : nxUp [] n = n := rfl
theorem nx1 (k n : Nat) (v : Option Ob) (r : List (Nat × Option Ob)) : nxUp ((k, v) :: r) n = nxUp r (bif Nat.ble n k then k + 1 else n) := rfl
def ao : List (Nat × Option Ob) → List (Nat × Option Ob) → List (Nat × Option Ob)
  | [], m => m
  | v :: r, m => v :: ao r m
theorem ao0 (m : List (Nat × Option Ob)) : ao [] m = m := rfl
theorem ao1 (v : Nat × Option Ob) (r m : List (Nat × Option Ob)) : ao (v :: r) m = v :: ao r m := rfl
theorem se0 (e : List (Nat × AV)) : selE e [] = [] := rfl
theorem se1 (e : List (Nat × AV)) (k : Nat) (ks : List Nat) : selE e (k :: ks) = (k, look e k) :: selE e ks := rfl
theorem so0 (e : List (Nat × Option Ob)) : selO e [] = [] := rfl
theorem so1 (e : List (Nat × Option Ob)) (k : Nat) (ks : List Nat) : selO e (k :: ks) = (k, lookOb e k) :: selO e ks := rfl
set_option linter.defProp false in
def lpR := And.intro @nx0 (And.intro @nx1 (And.intro @ao0 (And.intro @ao1 (And.intro @se0 (And.intro @se1 (And.intro @so0 @so1))))))
end Nf
theorem AW.loopR {S : Type} {c : Code} {Q : Exit → DS → Prop} (ks os : List Nat) (u : S → List (Nat × AV)) (ou : S → List (Nat × Option Ob)) (I : S → Prop) (μ : S → Nat) (s0 : S) {D : S → DS}
    (hD : (fun s => (⟨δ.n, Nf.ae (u s) (selE δ.env ks), Nf.ao (ou s) (selO δ.objs os), nxUp (ou s) δ.nx⟩ : DS)) = D) (hs : I s0) (hw : Weak g δ (D s0))
    (round : ∀ s, I s → AW P g c (thenD (fun δ' => ∃ s', I s' ∧ μ s' < μ s ∧ Weak g δ' (D s')) Q) (D s)) : AW P g (.loop c) Q δ := AW.loop D I μ s0 hs hw round
/-- a slice that nobody looks into. -/
theorem Rd.raw {P : Program} {t e : TypeId} (ht : P.underlying t = some (.slice e)) : Rd P t (fun s : Option Addr × Nat × Nat => [.lit (.slice s.1 s.2.1 s.2.2)]) (fun _ => True) := by
  intro H en w sp fuel cs x hx _
  rcases DataW.trod_slice ht hx with ⟨rfl, rfl⟩ | ⟨a, len, cap, elems, rest, n, rfl, rfl, rfl, _⟩
  · exact ⟨(_, _, _), .one (.lit _) rfl, trivial⟩
  · exact ⟨(_, _, _), .one (.lit _) rfl, trivial⟩
end Go.Ab
/- Quotient and remainder of numbers that are not below zero. -/
namespace Go.Ab
open Go Go.RowKit
variable {q : Md} {P : Program} {g : Ghost} {δ : DS} {ops : Array Oper} {rest : List Oper} {Q : Exit → DS → Prop} {dst : Option Nat} {ty : TypeId} {pos : String} {af : Array Edge} {x y : Operand} {m n : Int} {t t' : TypeId}
theorem AOps.remE (hx : δ.ev x = litI m) (hy : δ.ev y = litI n) (ho : okT x = true) (ho' : okT y = true) (hd : okD δ.n dst = true) (h0 : 0 ≤ m ∧ 0 < n) (hK : AOps q P g ops rest Q (δ.putd dst (litI (m % n)))) : AOps q P g ops (⟨dst, .binOp .rem t x y t', ty, pos, af, none⟩ :: rest) Q δ :=
  AOps.rem hx hy ho ho' hd (by omega) (by rw [Int.tmod_eq_emod_of_nonneg h0.1]; exact hK)
theorem AOps.quoE (hx : δ.ev x = litI m) (hy : δ.ev y = litI n) (ho : okT x = true) (ho' : okT y = true) (hd : okD δ.n dst = true) (h0 : 0 ≤ m ∧ m ≤ 9223372036854775807 ∧ 0 < n) (hK : AOps q P g ops rest Q (δ.putd dst (litI (m / n)))) : AOps q P g ops (⟨dst, .binOp .quo t x y t', ty, pos, af, none⟩ :: rest) Q δ :=
  AOps.quo hx hy ho ho' hd (by omega) (by
    have h1 : m.tdiv n = m / n := Int.tdiv_eq_ediv_of_nonneg h0.1
    have h2 : 0 ≤ m / n := Int.ediv_nonneg h0.1 (by omega)
    have h3 : m / n ≤ m := Int.ediv_le_self _ h0.1
    rw [h1, IntWalk.i64_in _ (by omega)]
    exact hK)
end Go.Ab
/- Two objects' names exchanged; the orders of a drawn region brought together again. -/
namespace Go.Ab
open Go Go.RowKit
variable {P : Program} {g : Ghost} {δ : DS} {κ : Nat → Option Nat} {a : Act} {w : World}
namespace Nf
variable {n x : Nat} {e : List (Nat × AV)} {o : List (Nat × Option Ob)} {i j k : Nat}
end Nf
variable {k : Wt} {late : List Nat} {l : List Oper} {dn : List Nat} {QD : Exit → DS → Prop}
/-- all orders up to J come together. -/
theorem AR.cut (J : List Nat) {δc : DS} (h1 : AR P g k late l QD J δc → AR P g k late l QD dn δ) (h2 : AR P g k late l QD J δc) : AR P g k late l QD dn δ := h1 h2
theorem Rel.congr {δ' : DS} (hn : δ'.n = δ.n) (hx : δ'.nx = δ.nx) (he : ∀ j, δ'.get j = δ.get j) (ho : ∀ j, δ'.ob j = δ.ob j) (r : Rel g δ κ a w) : Rel g δ' κ a w := by
  have hob : δ'.ob = δ.ob := funext ho
  have hl : δ'.live = δ.live := by unfold DS.live; rw [hob]
  have hlr : δ'.lr = δ.lr := by unfold DS.lr; rw [hob]
  have hlb : δ'.lb = δ.lb := by unfold DS.lb; rw [hob]
  have hcx : δ'.cx g κ = δ.cx g κ := by unfold DS.cx; rw [hl, hlr, hlb]
  exact
    { n := r.n.trans hn.symm, dfr := r.dfr
      env := fun j => by rw [hcx, he]; exact r.env j
      obj := fun i o h => by rw [hcx]; rw [ho] at h; exact r.obj i o h
      inj := by rw [hl]; exact r.inj
      lo := by rw [hl]; exact r.lo
      nx := by rw [hl, hx]; exact r.nx
      wt := by rw [hl, hlr]; exact r.wt
      below := r.below, hB := r.hB, N0 := r.N0 }
namespace Nf
variable {n x : Nat} {e : List (Nat × AV)} {o : List (Nat × Option Ob)} {i j m : Nat}
end Nf
end Go.Ab
/- Callees that rewrite a row of numbers in place: Go's slices.Sort, slices.Compact. -/
namespace Go.Ab
open Go Go.RowKit
variable {P : Program} {g : Ghost} {δ : DS} {κ : Nat → Option Nat} {a : Act} {w : World}
variable {ops : Array Oper} {rest : List Oper} {Q : Exit → DS → Prop} {dst : Option Nat} {ty : TypeId} {pos : String} {af : Array Edge} {gd : Option (Tmp × Bool)}
theorem enters_of {f : FuncId} {fn : Func} {c : Code} (hf : P.funcs[f]? = some fn) (hb : fn.body = some c) (he : (fn.name == "runtime.NumGoroutine") = false) : ∀ vals w, (callFunc f vals).run P w = .ok (.enter f vals) w := fun vals w => by
  simp [callFunc, hf, hb]; simpa using he
end Go.Ab
/- A row's first part; append of made zeros to nothing; a capacity. -/
namespace Go.Ab
open Go Go.RowKit
variable {q : Md} {P : Program} {g : Ghost} {δ : DS} {κ : Nat → Option Nat} {a : Act} {w : World}
variable {ops : Array Oper} {rest : List Oper} {Q : Exit → DS → Prop} {dst : Option Nat} {ty : TypeId} {pos : String} {af : Array Edge} {gd : Option (Tmp × Bool)}
namespace Nf
variable {n x : Nat} {e : List (Nat × AV)} {o : List (Nat × Option Ob)}
end Nf
end Go.Ab
/- Contracts of callees that return a row of their own making; the caller owns it from then on. -/
namespace Go.Ab
open Go Go.RowKit
variable {P : Program} {g : Ghost} {δ : DS} {κ : Nat → Option Nat} {a : Act} {w : World}
variable {ops : Array Oper} {rest : List Oper} {Q : Exit → DS → Prop} {dst : Option Nat} {ty : TypeId} {pos : String} {af : Array Edge}
/-- a fresh row: v is a slice over it. -/
structure Fresh (N : Nat → Prop) (w : World) (B : Nat) (v : Value) (e : TypeId) (k : Nat) (els : List (List PV)) : Prop where
  lim : els.length ≤ 140737488355328
  hk : ∀ c ∈ els, c.length = k
  row : ∃ xs, w.ownsRow B e k v els.length xs ∧ (∀ u ∈ xs, u.oneCell' = true) ∧ ∀ i' j p, cellAt els i' j = some p → ∃ u, xs[i' * k + j]? = some u ∧ RP (fun b => N b ∧ v.ownBlock ≠ some b) w u p
structure FnO (P : Program) (f : FuncId) (args : List AV) (e : TypeId) (k : Nat) (els : List (List PV)) : Prop where
  enters : ∀ vals w, (callFunc f vals).run P w = .ok (.enter f vals) w
  calls : ∀ (N : Nat → Prop) (w : World) (vals : Array Value), (∀ b, w.heap.size ≤ b → N b) → vals.size = args.length →
    (∀ (j : Nat) (v : Value) (av : AV), vals[j]? = some v → args[j]? = some av → RA (pcx N) w v av) →
    Calls P f vals w fun en w' => ∃ v, en = .returned v ∧ Below w.heap.size w w' ∧ Fresh N w' w.heap.size v e k els
/-- the function's end, a row handed out. -/
def EndsO (P : Program) (rs : List ResultVar) (e : TypeId) (k : Nat) (els : List (List PV)) : Exit → DS → Prop
  | .normal, δ | .ret, δ => (∃ i, Res P δ rs (.own i e k els)) ∨ (els = [] ∧ Res P δ rs (.pv (.lit (.slice none 0 0))))
  | _, _ => False
theorem FnO.enter {f : FuncId} {fn : Func} {c : Code} {rs : List ResultVar} {n : Nat} {args : List AV} {e : TypeId} {k : Nat} {els : List (List PV)} (hf : P.funcs[f]? = some fn) (hb : fn.body = some c) (hrs : fn.results = rs.toArray) (hn : fn.ntmps = n) (hna : Nat.ble args.length n = true)
    (hna' : Nat.ble n HS = true) (he : (fn.name == "runtime.NumGoroutine") = false) (h : ∀ g : Ghost, g.ro = none → g.wt = none → AW P g c (EndsO P rs e k els) (start n args)) : FnO P f args e k els := by
  refine ⟨fun vals w => by simp [callFunc, hf, hb]; simpa using he, fun N w vals hN hs hargs => ?_⟩
  have hle : args.length ≤ n := by simpa using hna
  have hnH : n ≤ HS := by simpa using hna'
  let g : Ghost := { B := w.heap.size, w0 := w, N0 := N, held := fun _ => undef, ro := none, mks := [], wt := none }
  have hnl : ∀ i, ¬ (start n args).live i := fun i ⟨o, h⟩ => by cases h
  refine callsIn_wide.1 (callsIn_of_wp_marks (n := 0) hf hb trivial (wpIn_mono (h g rfl rfl (fun _ => none) _ w ?_) ?_))
  · exact
    { n := by simp [hn, start]; omega
      dfr := ⟨[], rfl, by simp [g], by simp [g]⟩
      env := fun j => by
        by_cases hj : j < args.length
        · have h1 : (start n args).get j = args[j] := look_enum args 0 j _ (Nat.zero_le _) (by simp [hj])
          have h2 : g.val { tmps := vals ++ Array.replicate (fn.ntmps - vals.size) undef, defers := [] } j = vals[j]'(by omega) := by
            unfold Ghost.val
            rw [if_pos (by omega)]
            simp [Array.getD_eq_getD_getElem?, Array.getElem?_append, hs, hj]
          rw [h1, h2]
          exact (hargs j _ _ (Array.getElem?_eq_getElem (by omega)) (List.getElem?_eq_getElem hj)).of_pcx _ fun b _ h => ⟨h, fun i hi => absurd hi (hnl i)⟩
        · have h1 : (start n args).get j = .any := look_enum_out args 0 j (by omega)
          rw [h1]; exact .any _
      obj := fun i o h => by cases h
      inj := fun i j b h => absurd h (hnl i)
      lo := fun i b h => absurd h (hnl i)
      nx := fun i h => absurd h (hnl i)
      wt := fun k hk => by cases hk
      below := Below.refl _ _
      hB := Nat.le_refl _
      N0 := hN }
  · rintro ex a' w' ⟨δ', κ', hq, r'⟩
    have fin : ∀ i, Res P δ' rs (.own i e k els) → LeavesInM Fence.wide 0 P fn a'.tmps (fun en w' => ∃ v, en = .returned v ∧ Below w.heap.size w w' ∧ Fresh N w' w.heap.size v e k els) a'.defers .returning w' := by
      intro i h1
      exact leaves (g := g) rfl hrs h1 r' (fun w2 r2 u hu => by
        have ho := hu.own_inv
        refine ⟨u, rfl, r2.below, ho.lim, ho.hk, ?_⟩
        obtain ⟨xs, h3, h4, h5⟩ := ho.row
        refine ⟨xs, h3, h4, fun i' j p hp => ?_⟩
        obtain ⟨v, hv, hr⟩ := h5 i' j p hp
        refine ⟨v, hv, hr.mono (Nat.le_refl _) fun b _ hN => ⟨⟨hN.1, fun hb => ?_⟩, rfl⟩⟩
        exact hN.2 i (DS.lr_live ho.live) (ho.blk b hb))
    have finN : els = [] → Res P δ' rs (.pv (.lit (.slice none 0 0))) → LeavesInM Fence.wide 0 P fn a'.tmps (fun en w' => ∃ v, en = .returned v ∧ Below w.heap.size w w' ∧ Fresh N w' w.heap.size v e k els) a'.defers .returning w' := by
      intro h0 h1
      exact leaves (g := g) rfl hrs h1 r' (fun w2 r2 u hu => by
        have hu := hu.lit
        subst hu
        subst h0
        exact ⟨_, rfl, r2.below, by simp, fun c hc => by simp at hc, [], World.ownsRow_nil _ _ _ _, fun u hu => by simp at hu, fun i' j p hp => by simp [cellAt] at hp⟩)
    cases ex with
    | normal =>
      rcases hq with ⟨i, h1⟩ | ⟨h0, h1⟩
      · exact fin i h1
      · exact finN h0 h1
    | ret =>
      rcases hq with ⟨i, h1⟩ | ⟨h0, h1⟩
      · exact fin i h1
      · exact finN h0 h1
    | _ => exact hq.elim
end Go.Ab
/- Strings: joined, compared, measured, indexed, cut; numbers of any kind compared. -/
namespace Go.Ab
open Go Go.RowKit
variable {q : Md} {P : Program} {g : Ghost} {δ : DS} {κ : Nat → Option Nat} {a : Act} {w : World}
variable {ops : Array Oper} {rest : List Oper} {Q : Exit → DS → Prop} {dst : Option Nat} {ty : TypeId} {pos : String} {af : Array Edge}
theorem AOps.self {l : List Oper} (h : AOps q P g ops l Q δ) : AOps q P g ops l Q δ := h
abbrev litS (s : ByteArray) : AV := .pv (.lit (.string s))
theorem toList_beq (s u : ByteArray) : (s.toList == u.toList) = decide (s = u) := by
  rw [ByteArray.toList_eq, ByteArray.toList_eq]
  by_cases h : s = u
  · subst h; simp
  · rw [decide_eq_false h, beq_eq_false_iff_ne]
    intro h2
    exact h (ByteArray.ext (Array.toList_inj.1 h2))
theorem run_str (op : BinOp) (t : TypeId) (x y : Operand) (s u : ByteArray) (c : Value) (h : ∀ w, (Go.binOp op t (.string s) (.string u) : Sem Value).run P w = .ok c w) (w : World) :
    (do eqGuard op t x y (.string s) (.string u); Go.binOp op t (.string s) (.string u) : Sem Value).run P w = .ok c w := by
  have h1 : (eqGuard op t x y (.string s) (.string u)).run P w = .ok () w := by
    unfold eqGuard
    cases op <;> simp [Sem.run, pure, Sem.bind, bind]
  rw [Sem.run_bind, h1, Result.andThen_ok, h]
section strs
variable {x y : Operand} {t t' : TypeId} {s u : ByteArray} (hx : δ.ev x = litS s) (hy : δ.ev y = litS u) (ho : okT x = true) (ho' : okT y = true) (hd : okD δ.n dst = true)
include hx hy ho ho' hd
theorem AOps.catS (hb : s.size + u.size ≤ 9223372036854775807) (hK : AOps q P g ops rest Q (δ.putd dst (litS (s ++ u)))) : AOps q P g ops (⟨dst, .binOp .add t x y t', ty, pos, af, none⟩ :: rest) Q δ :=
  AOps.bin hx hy ho ho' (run_str _ _ _ _ _ _ _ fun w => by rw [binOp_string_add]; exact run_string_add_sum w s u hb) hd hK
theorem AOps.eqlS (hK : AOps q P g ops rest Q (δ.putd dst (litB (decide (s = u))))) : AOps q P g ops (⟨dst, .binOp .eql t x y t', ty, pos, af, none⟩ :: rest) Q δ :=
  AOps.bin hx hy ho ho' (run_str _ _ _ _ _ _ _ fun w => by rw [binOp_string_eql, toList_beq]; rfl) hd hK
end strs
theorem AOps.eqlU {x y : Operand} {t t' : TypeId} {m n : Int} {k : IntKind} (hx : δ.ev x = .pv (.lit (.int k m))) (hy : δ.ev y = .pv (.lit (.int k n))) (ho : okT x = true) (ho' : okT y = true) (hd : okD δ.n dst = true)
    (hK : AOps q P g ops rest Q (δ.putd dst (litB (decide (m = n))))) : AOps q P g ops (⟨dst, .binOp .eql t x y t', ty, pos, af, none⟩ :: rest) Q δ :=
  AOps.bin hx hy ho ho' (run_int _ _ _ _ _ _ _ _ (by simp) (by simp only [Op.intCmp, beq_dec]; rfl)) hd hK
theorem AOps.len_str {x : Operand} {t : TypeId} {s : ByteArray} (hx : δ.ev x = litS s) (ht : P.underlying t = some .string) (ho : okT x = true) (hd : okD δ.n dst = true)
    (hK : AOps q P g ops rest Q (δ.putd dst (litI (s.size : Nat)))) : AOps q P g ops (⟨dst, .call { callee := .builtin .len, args := #[x], argTypes := #[t] }, ty, pos, af, none⟩ :: rest) Q δ :=
  AOps.valw _ hd (fun κ a w r => ⟨_, fun w' _ => by
    have h := r.lit hx ho
    simp [execOp, resolve, invoke, builtin, Builtin.len_, run_underlying ht, h, goInt], .pv (.lit _)⟩) hK
/-- a byte of a string. -/
def byteAt (s : ByteArray) (n : Nat) : Int := ((s.data.toList.getD n 0).toNat : Nat)
theorem AOps.index_str {x y : Operand} {t : TypeId} {s : ByteArray} {ik : IntKind} {n : Nat} (hx : δ.ev x = litS s) (hy : δ.ev y = .pv (.lit (.int ik (n : Int)))) (ht : P.underlying t = some .string) (ho : okT x = true) (ho' : okT y = true) (hd : okD δ.n dst = true) (hn : n < s.size)
    (hK : AOps q P g ops rest Q (δ.putd dst (.pv (.lit (.int .u8 (byteAt s n)))))) : AOps q P g ops (⟨dst, .index t x y, ty, pos, af, none⟩ :: rest) Q δ :=
  AOps.valw _ hd (fun κ a w r => ⟨_, fun w' _ => by
    have h := r.lit hx ho
    have h2 := r.lit hy ho'
    have h3 := run_index_string (P := P) w' t s ik n ht
    rw [dif_pos ⟨by omega, by omega⟩] at h3
    have e : s[((n : Int)).toNat]'(by omega) = s.data.toList.getD n 0 := by
      have h' : n < s.data.toList.length := by simpa using hn
      rw [List.getD, List.getElem?_eq_getElem h']
      simp
      rfl
    simp only [execOp, h, h2, Sem.run_bind, h3, Result.andThen_ok]
    rw [e]
    rfl, .pv (.lit _)⟩) hK
theorem AOps.slice_strT {x y : Operand} {t : TypeId} {s : ByteArray} {n : Int} (hx : δ.ev x = litS s) (hy : δ.ev y = litI n) (ht : P.underlying t = some .string) (ho : okT x = true) (ho' : okT y = true) (hd : okD δ.n dst = true) (h0 : 0 ≤ n) (hn : n ≤ s.size)
    (hK : AOps q P g ops rest Q (δ.putd dst (litS (s.extract 0 n.toNat)))) : AOps q P g ops (⟨dst, .slice t x none (some y) none, ty, pos, af, none⟩ :: rest) Q δ :=
  AOps.valw _ hd (fun κ a w r => ⟨_, fun w' _ => by
    have h := r.lit hx ho
    have h2 := r.lit hy ho'
    have h3 := run_slice_string_to_if (P := P) w' t s .i64 n ht
    rw [if_pos ⟨h0, hn⟩] at h3
    simp only [execOp, h, h2, Option.map_none, Option.map_some, Sem.run_bind, run_sliceAt_string w' t _ _ _ _ ht, h3, Result.andThen_ok]
    rfl, .pv (.lit _)⟩) hK
/-! six numbers laid out -/
theorem Eff.bs6 {gd : Option (Tmp × Bool)} {t e : TypeId} {z : Value} {x0 x1 x2 x3 x4 x5 : Operand} {p0 p1 p2 p3 p4 p5 : PV} (ht : P.underlying t = some (.slice e)) (h0 : δ.ev x0 = .pv p0) (h1 : δ.ev x1 = .pv p1) (h2 : δ.ev x2 = .pv p2) (h3 : δ.ev x3 = .pv p3) (h4 : δ.ev x4 = .pv p4) (h5 : δ.ev x5 = .pv p5) (hi : (P.info? e).map (fun i => (i.size, i.zero)) = some (1, some z)) (hz : z.cells.toList.all (·.oneCell') = true) (hzk : Nat.beq z.cells.size 1 = true) (k0 : AV.one (.pv p0) = true) (k1 : AV.one (.pv p1) = true) (k2 : AV.one (.pv p2) = true) (k3 : AV.one (.pv p3) = true) (k4 : AV.one (.pv p4) = true) (k5 : AV.one (.pv p5) = true) (o0 : okT x0 = true) (o1 : okT x1 = true) (o2 : okT x2 = true) (o3 : okT x3 = true) (o4 : okT x4 = true) (o5 : okT x5 = true) (hd : okD δ.n dst = true) : Eff P g ⟨dst, .buildSlice t 6 [(0, x0), (1, x1), (2, x2), (3, x3), (4, x4), (5, x5)].toArray, ty, pos, af, gd⟩ δ ((δ.addOb .row).putd dst (.own δ.nx e 1 [[p0], [p1], [p2], [p3], [p4], [p5]])) := by
  have hf : fillA (fun i => some (i * 1, 1)) (zerosA z (6 * 1)) (([(0, x0), (1, x1), (2, x2), (3, x3), (4, x4), (5, x5)] : List (Nat × Operand)).map fun p => (p.1, δ.ev p.2)) = some [.pv p0, .pv p1, .pv p2, .pv p3, .pv p4, .pv p5] := by
    simp [fillA, setsA, AV.cellsOf, AV.ones, zerosA, h0, h1, h2, h3, h4, h5, k0, k1, k2, k3, k4, k5, List.map_cons, List.map_nil] <;> rfl
  exact Eff.buildSlice (len := 6) (k := 1) (parts := [(0, x0), (1, x1), (2, x2), (3, x3), (4, x4), (5, x5)]) (cells := [.pv p0, .pv p1, .pv p2, .pv p3, .pv p4, .pv p5]) ht hi hzk rfl rfl hz (by simp [o0, o1, o2, o3, o4, o5]) hf (by simp [AV.isPv]) hd
theorem AOps.bs6 {t e : TypeId} {z : Value} {x0 x1 x2 x3 x4 x5 : Operand} {p0 p1 p2 p3 p4 p5 : PV} (ht : P.underlying t = some (.slice e)) (h0 : δ.ev x0 = .pv p0) (h1 : δ.ev x1 = .pv p1) (h2 : δ.ev x2 = .pv p2) (h3 : δ.ev x3 = .pv p3) (h4 : δ.ev x4 = .pv p4) (h5 : δ.ev x5 = .pv p5) (hi : (P.info? e).map (fun i => (i.size, i.zero)) = some (1, some z)) (hz : z.cells.toList.all (·.oneCell') = true) (hzk : Nat.beq z.cells.size 1 = true) (k0 : AV.one (.pv p0) = true) (k1 : AV.one (.pv p1) = true) (k2 : AV.one (.pv p2) = true) (k3 : AV.one (.pv p3) = true) (k4 : AV.one (.pv p4) = true) (k5 : AV.one (.pv p5) = true) (o0 : okT x0 = true) (o1 : okT x1 = true) (o2 : okT x2 = true) (o3 : okT x3 = true) (o4 : okT x4 = true) (o5 : okT x5 = true) (hd : okD δ.n dst = true) (hK : AOps .plain P g ops rest Q ((δ.addOb .row).putd dst (.own δ.nx e 1 [[p0], [p1], [p2], [p3], [p4], [p5]]))) : AOps .plain P g ops (⟨dst, .buildSlice t 6 [(0, x0), (1, x1), (2, x2), (3, x3), (4, x4), (5, x5)].toArray, ty, pos, af, none⟩ :: rest) Q δ := AOps.eff rfl rfl (Eff.bs6 ht h0 h1 h2 h3 h4 h5 hi hz hzk k0 k1 k2 k3 k4 k5 o0 o1 o2 o3 o4 o5 hd) hK
end Go.Ab
