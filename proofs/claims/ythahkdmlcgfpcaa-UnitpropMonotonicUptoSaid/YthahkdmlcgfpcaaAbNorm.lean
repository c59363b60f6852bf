/- States written out: laws by which a state's term is brought to its plain form. -/
import Derived.Test.YthahkdmlcgfpcaaAbWeak2
set_option linter.unusedSimpArgs false
set_option linter.unusedVariables false
namespace Go.Ab
open Go Go.RowKit
namespace Nf
variable {n x : Nat} {e : List (Nat × AV)} {o : List (Nat × Option Ob)}
theorem beq (i j : Nat) : Nat.beq i j = (i == j) := by
  by_cases h : i = j
  · subst h; simp
  · rw [beq_ne h]; exact (beq_eq_false_iff_ne.2 h).symm
theorem ble (i j : Nat) : Nat.ble i j = (i - j == 0) := by
  by_cases h : i ≤ j
  · have h1 : Nat.ble i j = true := by simpa using h
    have h2 : i - j = 0 := by omega
    rw [h1, h2]; rfl
  · have h1 : Nat.ble i j = false := by
      cases hh : Nat.ble i j with
      | false => rfl
      | true => exact absurd (by simpa using hh) h
    rw [h1]; exact (beq_eq_false_iff_ne.2 (by omega)).symm
theorem hs : HS = 1000 := rfl
theorem c_t {α : Type} (a b : α) : (bif true then a else b) = a := rfl
theorem c_f {α : Type} (a b : α) : (bif false then a else b) = b := rfl
theorem put (d : Nat) (v : AV) : DS.putd ⟨n, e, o, x⟩ (some d) v = ⟨n, (d, v) :: e, o, x⟩ := rfl
theorem put0 (v : AV) : DS.putd ⟨n, e, o, x⟩ none v = ⟨n, e, o, x⟩ := rfl
theorem add (b : Ob) : DS.addOb ⟨n, e, o, x⟩ b = ⟨n, e, (x, some b) :: o, x + 1⟩ := rfl
theorem set (i : Nat) (b : Option Ob) : DS.setOb ⟨n, e, o, x⟩ i b = ⟨n, e, (i, b) :: o, x⟩ := rfl
theorem pn : (DS.mk n e o x).n = n := rfl
theorem pe : (DS.mk n e o x).env = e := rfl
theorem po : (DS.mk n e o x).objs = o := rfl
theorem px : (DS.mk n e o x).nx = x := rfl
theorem ev_t (t : Nat) : DS.ev ⟨n, e, o, x⟩ (.tmp t) = look e t := rfl
theorem ev_c (v : Value) : DS.ev ⟨n, e, o, x⟩ (.const v) = .pv (.lit v) := rfl
theorem ev_f (f : Nat) : DS.ev ⟨n, e, o, x⟩ (.func f) = .clo (.func f) [] [] := rfl
theorem look0 (j : Nat) : look [] j = .any := rfl
theorem look1 (i j : Nat) (v : AV) (r : List (Nat × AV)) : look ((i, v) :: r) j = bif Nat.beq i j then v else look r j := rfl
theorem start (args : List AV) : start n args = ⟨n, enum 0 args, [], 0⟩ := rfl
theorem en0 (i : Nat) : enum i [] = [] := rfl
theorem en1 (i : Nat) (v : AV) (r : List AV) : enum i (v :: r) = (i, v) :: enum (i + 1) r := rfl
/-- values of a list of operands. -/
def evs (e : List (Nat × AV)) : List Operand → List AV
  | [] => []
  | .tmp t :: r => look e t :: evs e r
  | .const v :: r => .pv (.lit v) :: evs e r
  | .global _ :: r => .any :: evs e r
  | .func f :: r => .clo (.func f) [] [] :: evs e r
theorem evs_eq : ∀ xs : List Operand, xs.map (DS.ev ⟨n, e, o, x⟩) = evs e xs
  | [] => rfl
  | .tmp t :: r => by simp only [List.map_cons, evs, evs_eq r]; rfl
  | .const v :: r => by simp only [List.map_cons, evs, evs_eq r]; rfl
  | .global v :: r => by simp only [List.map_cons, evs, evs_eq r]; rfl
  | .func f :: r => by simp only [List.map_cons, evs, evs_eq r]; rfl
theorem evs_map (δ : DS) (xs : List Operand) : xs.map δ.ev = evs δ.env xs := evs_eq (n := δ.n) (o := δ.objs) (x := δ.nx) xs
theorem evs0 : evs e [] = [] := rfl
theorem evs_t (t : Nat) (r : List Operand) : evs e (.tmp t :: r) = look e t :: evs e r := rfl
theorem evs_c (v : Value) (r : List Operand) : evs e (.const v :: r) = .pv (.lit v) :: evs e r := rfl
theorem evs_f (f : Nat) (r : List Operand) : evs e (.func f :: r) = .clo (.func f) [] [] :: evs e r := rfl
/-- lists of values behind each other. -/
def av : List AV → List AV → List AV
  | [], m => m
  | v :: r, m => v :: av r m
theorem av_eq : ∀ l m : List AV, l ++ m = av l m
  | [], _ => rfl
  | v :: r, m => by rw [List.cons_append, av_eq r m]; rfl
theorem av0 (m : List AV) : av [] m = m := rfl
theorem av1 (v : AV) (r m : List AV) : av (v :: r) m = v :: av r m := rfl
def ae : List (Nat × AV) → List (Nat × AV) → List (Nat × AV)
  | [], m => m
  | v :: r, m => v :: ae r m
theorem ae_eq : ∀ l m : List (Nat × AV), l ++ m = ae l m
  | [], _ => rfl
  | v :: r, m => by rw [List.cons_append, ae_eq r m]; rfl
theorem ae0 (m : List (Nat × AV)) : ae [] m = m := rfl
theorem ae1 (v : Nat × AV) (r m : List (Nat × AV)) : ae (v :: r) m = v :: ae r m := rfl
def sh : List (Nat × AV) → List (Nat × AV)
  | [] => []
  | (i, v) :: r => (i + HS, v) :: sh r
theorem sh_eq : ∀ l, shiftE l = sh l
  | [] => rfl
  | (i, v) :: r => by show (i + HS, v) :: shiftE r = _; rw [sh_eq r]; rfl
theorem sh0 : sh [] = [] := rfl
theorem sh1 (i : Nat) (v : AV) (r : List (Nat × AV)) : sh ((i, v) :: r) = (i + 1000, v) :: sh r := rfl
theorem un0 : unshiftE [] = [] := rfl
theorem un1 (i : Nat) (v : AV) (r : List (Nat × AV)) : unshiftE ((i, v) :: r) = bif Nat.ble 1000 i then (i - 1000, v) :: unshiftE r else unshiftE r := rfl
theorem ow0 : ownE [] = [] := rfl
theorem ow1 (i : Nat) (v : AV) (r : List (Nat × AV)) : ownE ((i, v) :: r) = bif Nat.ble 1000 i then (bif Nat.ble i 1999 then (i - 1000, v) :: ownE r else ownE r) else ownE r := by
  have h : Nat.blt i (HS + HS) = Nat.ble i 1999 := by
    show Nat.ble (i + 1) 2000 = Nat.ble i 1999
    rfl
  show (bif Nat.ble HS i && Nat.blt i (HS + HS) then _ else _) = _
  rw [h]
  show (bif Nat.ble 1000 i && Nat.ble i 1999 then _ else _) = _
  cases Nat.ble 1000 i <;> rfl
theorem pa (t : Tmp) (ts : List Tmp) (v : AV) (vs : List AV) : parE (t :: ts) (v :: vs) e = parE ts vs ((t, v) :: e) := rfl
theorem pa0 : parE [] [] e = e := rfl
theorem rback (m : Nat) : roundBack m ⟨n, e, o, x⟩ = ⟨m, unshiftE e, o, x⟩ := rfl
theorem round (m : Nat) (ps : List Tmp) (vs : List AV) : roundD m ps vs ⟨n, e, o, x⟩ = ⟨m, parE ps vs (ae (ownE e) (sh e)), o, x⟩ := by
  unfold roundD
  rw [ae_eq, sh_eq]
/-- the values under a change. -/
def mapE (f : AV → AV) : List (Nat × AV) → List (Nat × AV)
  | [] => []
  | (i, v) :: r => (i, f v) :: mapE f r
def mapC (f : AV → AV) : List AV → List AV
  | [] => []
  | v :: r => f v :: mapC f r
def mapO (f : AV → AV) : List (Nat × Option Ob) → List (Nat × Option Ob)
  | [] => []
  | (i, b) :: r => (i, b.map (Ob.mp' f)) :: mapO f r
theorem mapE_eq (f : AV → AV) : ∀ l : List (Nat × AV), (l.map fun p => (p.1, f p.2)) = mapE f l
  | [] => rfl
  | (i, v) :: r => by rw [List.map_cons, mapE_eq f r]; rfl
theorem mapO_eq (f : AV → AV) : ∀ l : List (Nat × Option Ob), (l.map fun p => (p.1, p.2.map (Ob.mp' f))) = mapO f l
  | [] => rfl
  | (i, v) :: r => by rw [List.map_cons, mapO_eq f r]; rfl
theorem mapC_eq (f : AV → AV) : ∀ l : List AV, l.map f = mapC f l
  | [] => rfl
  | v :: r => by rw [List.map_cons, mapC_eq f r]; rfl
theorem mv (f : AV → AV) : DS.mapV ⟨n, e, o, x⟩ f = ⟨n, mapE f e, mapO f o, x⟩ := by
  unfold DS.mapV
  rw [mapE_eq, mapO_eq]
theorem mE0 (f : AV → AV) : mapE f [] = [] := rfl
theorem mE1 (f : AV → AV) (i : Nat) (v : AV) (r : List (Nat × AV)) : mapE f ((i, v) :: r) = (i, f v) :: mapE f r := rfl
theorem mC0 (f : AV → AV) : mapC f [] = [] := rfl
theorem mC1 (f : AV → AV) (v : AV) (r : List AV) : mapC f (v :: r) = f v :: mapC f r := rfl
theorem mO0 (f : AV → AV) : mapO f [] = [] := rfl
theorem mOn (f : AV → AV) (i : Nat) (r : List (Nat × Option Ob)) : mapO f ((i, none) :: r) = (i, none) :: mapO f r := rfl
theorem mOr (f : AV → AV) (i : Nat) (r : List (Nat × Option Ob)) : mapO f ((i, some .row) :: r) = (i, some .row) :: mapO f r := rfl
theorem mOb (f : AV → AV) (i : Nat) (cs : List AV) (r : List (Nat × Option Ob)) : mapO f ((i, some (.box cs)) :: r) = (i, some (.box (mapC f cs))) :: mapO f r := by
  show (i, some (Ob.box (cs.map f))) :: mapO f r = _
  rw [mapC_eq]
theorem mOm (f : AV → AV) (i : Nat) (l : List (Value × AV)) (r : List (Nat × Option Ob)) : mapO f ((i, some (.mp l)) :: r) = (i, some (.mp l)) :: mapO f r := rfl
theorem mOl (f : AV → AV) (i l : Nat) (tm ps asg body st) (r : List (Nat × Option Ob)) : mapO f ((i, some (.loop l tm ps asg body st)) :: r) = (i, some (.loop l tm ps asg body st)) :: mapO f r := rfl
section
variable (i j : Nat)
theorem k_any : AV.kill i .any = .any := rfl
theorem k_pv (p : PV) : AV.kill i (.pv p) = .pv p := rfl
theorem k_ptr (a b : Nat) : AV.kill i (.ptr a b) = .ptr a b := rfl
theorem k_rptr (c : List PV) : AV.kill i (.rptr c) = .rptr c := rfl
theorem k_mapr (a : Nat) : AV.kill i (.mapr a) = .mapr a := rfl
theorem k_yld (a : Nat) : AV.kill i (.yld a) = .yld a := rfl
theorem k_own (e k els) : AV.kill i (.own j e k els) = bif Nat.beq i j then .any else .own j e k els := rfl
theorem k_optr (e k els m) : AV.kill i (.optr j e k els m) = bif Nat.beq i j then .any else .optr j e k els m := rfl
theorem k_agg (cs : List AV) : AV.kill i (.agg cs) = .agg (mapC (AV.kill i) cs) := by
  show AV.mp _ _ = _
  rw [AV.mp, AV.mpL_eq, mapC_eq]; rfl
theorem k_tup (cs : List AV) : AV.kill i (.tup cs) = .tup (mapC (AV.kill i) cs) := by
  show AV.mp _ _ = _
  rw [AV.mp, AV.mpL_eq, mapC_eq]; rfl
theorem k_clo (fn : Go.Fn) (cs ds : List AV) : AV.kill i (.clo fn cs ds) = .clo fn (mapC (AV.kill i) cs) (mapC (AV.kill i) ds) := by
  show AV.mp _ _ = _
  rw [AV.mp, AV.mpL_eq, AV.mpL_eq, mapC_eq, mapC_eq]; rfl
end
theorem co_agg (cs : List AV) : AV.cellsOf (.agg cs) = cs := rfl
theorem co_pv (p : PV) : AV.cellsOf (.pv p) = [.pv p] := rfl
theorem co_ptr (a b : Nat) : AV.cellsOf (.ptr a b) = [.ptr a b] := rfl
theorem co_own (i e k els) : AV.cellsOf (.own i e k els) = [.own i e k els] := rfl
theorem co_any : AV.cellsOf .any = [.any] := rfl
theorem co_mapr (i : Nat) : AV.cellsOf (.mapr i) = [.mapr i] := rfl
theorem co_clo (fn a b) : AV.cellsOf (.clo fn a b) = [.clo fn a b] := rfl
theorem co_rptr (c) : AV.cellsOf (.rptr c) = [.rptr c] := rfl
theorem st0 (v : AV) (r : List AV) (w : AV) : (v :: r).set 0 w = w :: r := rfl
/-- a cell set. -/
def cset : List AV → Nat → AV → List AV
  | [], _, _ => []
  | _ :: r, 0, w => w :: r
  | v :: r, n + 1, w => v :: cset r n w
theorem cset_eq : ∀ (l : List AV) (n : Nat) (w : AV), l.set n w = cset l n w
  | [], _, _ => rfl
  | _ :: _, 0, _ => rfl
  | v :: r, n + 1, w => by rw [List.set_cons_succ, cset_eq r n w]; rfl
theorem lp {i l : Nat} {tm ps asg body st} (st' : LpSt) (h : lookOb o i = some (.loop l tm ps asg body st)) : DS.lpSt ⟨n, e, o, x⟩ i st' = ⟨n, e, (i, some (.loop l tm ps asg body st')) :: o, x⟩ := by
  unfold DS.lpSt DS.ob
  simp only [h]; rfl
theorem bk {i l m : Nat} {tm ps asg body st} (h : lookOb o i = some (.loop l tm ps asg body st)) : backD m i ⟨n, e, o, x⟩ = ⟨m, unshiftE e, (i, some (.loop l tm ps asg body .over)) :: o, x⟩ := by
  unfold backD DS.ob
  simp only [h]
theorem lo1 (i j : Nat) (v : Option Ob) (r : List (Nat × Option Ob)) : lookOb ((i, v) :: r) j = bif Nat.beq i j then v else lookOb r j := rfl
end Nf
end Go.Ab
