/- Rows given up in the middle of a walk. -/
import Derived.Test.YthahkdmlcgfpcaaAbMap2
set_option linter.unusedSimpArgs false
set_option linter.unusedVariables false
namespace Go.Ab
open Go Go.RowKit
variable {q : Md} {P : Program} {g : Ghost} {δ : DS} {κ : Nat → Option Nat} {a : Act} {w : World}
variable {ops : Array Oper} {rest : List Oper} {Q : Exit → DS → Prop} {dst : Option Nat} {ty : TypeId} {pos : String} {af : Array Edge}

def frzF (i : Nat) : AV → AV
  | .own j e k els => bif Nat.beq i j then .pv (.slice k els) else .own j e k els
  | .optr j e k els n => bif Nat.beq i j then .any else .optr j e k els n
  | v => v
def AV.frz (i : Nat) : AV → AV := AV.mp (frzF i)
def frzD (δ : DS) (i : Nat) : DS := (δ.mapV (AV.frz i)).setOb i none

theorem ob_frz (δ : DS) (i j : Nat) : (frzD δ i).ob j = if i = j then none else (δ.ob j).map (Ob.mp' (AV.frz i)) := by
  unfold frzD
  rw [ob_setOb, ob_mapV]
theorem get_frz (δ : DS) (i j : Nat) : (frzD δ i).get j = AV.frz i (δ.get j) := get_mapV (AV.frz i) rfl δ j

theorem Rel.freeze (r : Rel g δ κ a w) {i : Nat} (hi : δ.ob i = some .row) : ∃ κ', Rel g (frzD δ i) κ' a w := by
  have hlive : ∀ j, (frzD δ i).live j → j ≠ i ∧ δ.live j := by
    rintro j ⟨o, h⟩
    rw [ob_frz] at h
    by_cases e : i = j
    · rw [if_pos e] at h; cases h
    · rw [if_neg e] at h
      cases ho : δ.ob j with
      | none => rw [ho] at h; simp at h
      | some o' => exact ⟨fun e' => e e'.symm, o', ho⟩
  have hlr : ∀ j, (frzD δ i).lr j ↔ j ≠ i ∧ δ.lr j := by
    intro j
    unfold DS.lr
    rw [ob_frz]
    by_cases e : i = j
    · rw [if_pos e]; simp [e]
    · rw [if_neg e]
      have e' : j ≠ i := fun h => e h.symm
      cases δ.ob j with
      | none => simp
      | some o => cases o <;> simp [Ob.mp', e']
  have hlb : ∀ j, δ.lb j → (frzD δ i).lb j := by
    rintro j ⟨o, h1, h2⟩
    have e : i ≠ j := by rintro rfl; rw [hi] at h1; cases h1; simp [Ob.isRow] at h2
    refine ⟨Ob.mp' (AV.frz i) o, ?_, ?_⟩
    · rw [ob_frz, if_neg e, h1]; rfl
    · cases o <;> first | rfl | (simp [Ob.isRow] at h2)
  have hdrop : ∀ j b, δ.live j → (frzD δ i).ob j = none → κ j = some b → ((frzD δ i).cx g (κof δ κ)).N b := by
    intro j b hl hno hκ
    refine ⟨r.N0 b (r.lo j b hl hκ).1, fun m hm e => ?_⟩
    obtain ⟨h1, h2⟩ := κof_some e
    have := r.inj j m b hl h1 hκ h2
    subst this
    obtain ⟨o, hm⟩ := hm
    rw [hno] at hm; cases hm
  have G : Goes ((δ.cx g κ).less i) w ((frzD δ i).cx g (κof δ κ)) w :=
    { B := rfl, size := Nat.le_refl _
      N := fun b _ hN => ⟨⟨hN.1, fun j hj e => by
        obtain ⟨h1, h2⟩ := κof_some e
        exact hN.2 j h1 h2⟩, rfl⟩
      Lr := fun j hj => ⟨(hlr j).2 ⟨hj.2, hj.1⟩, κof_live (DS.lr_live hj.1), fun _ _ => rfl⟩
      Lb := fun j hj => ⟨hlb j hj, κof_live (DS.lb_live hj)⟩ }
  have F : ∀ {v : Value} {av : AV}, RA (δ.cx g κ) w v av → RA ((frzD δ i).cx g (κof δ κ)) w v (AV.frz i av) := by
    intro v av h
    refine RA.mp G rfl (fun j e k els hj => ?_) (fun j e k els n hj => ?_) (fun v e k els ho => ?_) (fun b cap e k els n _ _ => ?_) h
    · simp only [frzF, beq_ne (Ne.symm hj)]; rfl
    · simp only [frzF, beq_ne (Ne.symm hj)]; rfl
    · simp only [frzF, beq_self]
      exact .pv ((RA.own ho).frz hdrop (by rw [ob_frz, if_pos rfl]))
    · simp only [frzF, beq_self]; exact .any _
  refine ⟨κof δ κ, ?_⟩
  exact
    { n := r.n
      dfr := r.dfr
      env := fun j => by rw [get_frz]; exact F (r.env j)
      obj := fun j o h => by
        rw [ob_frz] at h
        by_cases e : i = j
        · rw [if_pos e] at h; cases h
        · rw [if_neg e] at h
          cases ho : δ.ob j with
          | none => rw [ho] at h; simp at h
          | some o' =>
            rw [ho] at h
            simp only [Option.map_some, Option.some.injEq] at h
            subst h
            have h0 := r.obj j o' ho
            have hκ : κof δ κ j = κ j := κof_live ⟨_, ho⟩
            cases o' with
            | row => intro b hb; exact h0 b (hκ.symm.trans hb)
            | box cs =>
              obtain ⟨b, c, e', h1, h2, h3, h4⟩ := h0
              refine ⟨b, c, e', hκ.trans h1, h2, by simpa using h3, fun k u av h5 h6 => ?_⟩
              simp only [List.getElem?_map, Option.map_eq_some_iff] at h6
              obtain ⟨av', h6, rfl⟩ := h6
              exact ⟨F (h4 k u av' h5 h6).1, (h4 k u av' h5 h6).2⟩
            | mp l =>
              obtain ⟨b, es, clock, h1, h2, h3, h4⟩ := h0
              exact ⟨b, es, clock, hκ.trans h1, h2, ⟨h3.1, fun k e' p h5 h6 => ⟨(h3.2 k e' p h5 h6).1, G.ra ((h3.2 k e' p h5 h6).2.less (h4.2 p (List.mem_of_getElem? h6)))⟩⟩, h4⟩
            | it l seen =>
              obtain ⟨b, h1, h2⟩ := h0
              exact ⟨b, hκ.trans h1, h2.mono G.size G.N rfl⟩
            | loop l tm ps asg body st =>
              obtain ⟨b, lr, h1, h2⟩ := h0
              exact ⟨b, lr, hκ.trans h1, h2⟩
      inj := fun j m b _ _ h3 h4 => r.inj j m b (κof_some h3).1 (κof_some h4).1 (κof_some h3).2 (κof_some h4).2
      lo := fun j b _ h2 => r.lo j b (κof_some h2).1 (κof_some h2).2
      nx := fun j h => r.nx j (hlive j h).2
      wt := fun k hk => ⟨(r.wt k hk).1, fun j b _ hj hb => by
        obtain ⟨hl, hκ⟩ := κof_some hb
        exact (r.wt k hk).2 j b hl (hj.imp (fun h => ((hlr j).1 h).2) id) hκ⟩
      below := r.below
      hB := r.hB
      N0 := r.N0 }

mutual
/-- the first row among values. -/
def AV.fo : AV → Option Nat
  | .own i _ _ _ => some i
  | .agg cs => AV.foL cs
  | .tup cs => AV.foL cs
  | _ => none
def AV.foL : List AV → Option Nat
  | [] => none
  | v :: r => match AV.fo v with | some i => some i | none => AV.foL r
end
theorem AOps.freeze (i : Nat) {l : List Oper} (hi : δ.ob i = some .row) (hK : AOps .plain P g ops l Q (frzD δ i)) : AOps .plain P g ops l Q δ := by
  intro κ a w r
  obtain ⟨κ', r'⟩ := r.freeze hi
  exact hK κ' a w r'
/-- before a slice is built out of rows. -/
theorem AOps.frzB {t : TypeId} {n i : Nat} {parts : List (Nat × Operand)} (h : AV.foL (Nf.evs δ.env (parts.map (·.2))) = some i) (hi : δ.ob i = some .row) (hK : AOps .plain P g ops (⟨dst, .buildSlice t n parts.toArray, ty, pos, af, none⟩ :: rest) Q (frzD δ i)) :
    AOps .plain P g ops (⟨dst, .buildSlice t n parts.toArray, ty, pos, af, none⟩ :: rest) Q δ := AOps.freeze i hi hK
/-- before a call. -/
theorem AOps.frzC {x : Operand} {i : Nat} {xs : List Operand} {tys : Array TypeId} (h : AV.foL (Nf.evs δ.env xs) = some i) (hi : δ.ob i = some .row) (hK : AOps .plain P g ops (⟨dst, .call { callee := .value x, args := xs.toArray, argTypes := tys }, ty, pos, af, none⟩ :: rest) Q (frzD δ i)) :
    AOps .plain P g ops (⟨dst, .call { callee := .value x, args := xs.toArray, argTypes := tys }, ty, pos, af, none⟩ :: rest) Q δ := AOps.freeze i hi hK
/-- before a slice of a row is taken. -/
theorem AOps.frzS {x : Operand} {t i : Nat} {e k els} {lo hi' mx : Option Operand} (h : δ.ev x = .own i e k els) (hi : δ.ob i = some .row) (hK : AOps .plain P g ops (⟨dst, .slice t x lo hi' mx, ty, pos, af, none⟩ :: rest) Q (frzD δ i)) :
    AOps .plain P g ops (⟨dst, .slice t x lo hi' mx, ty, pos, af, none⟩ :: rest) Q δ := AOps.freeze i hi hK
namespace Nf
variable {n x : Nat} {e : List (Nat × AV)} {o : List (Nat × Option Ob)} (i j : Nat)
theorem fd : frzD ⟨n, e, o, x⟩ i = ⟨n, mapE (AV.frz i) e, (i, none) :: mapO (AV.frz i) o, x⟩ := by
  unfold frzD
  rw [mv]; rfl
theorem f_any : AV.frz i .any = .any := rfl
theorem f_pv (p : PV) : AV.frz i (.pv p) = .pv p := rfl
theorem f_ptr (a b : Nat) : AV.frz i (.ptr a b) = .ptr a b := rfl
theorem f_rptr (c : List PV) : AV.frz i (.rptr c) = .rptr c := rfl
theorem f_mapr (a : Nat) : AV.frz i (.mapr a) = .mapr a := rfl
theorem f_yld (a : Nat) : AV.frz i (.yld a) = .yld a := rfl
theorem f_own (e k els) : AV.frz i (.own j e k els) = bif Nat.beq i j then .pv (.slice k els) else .own j e k els := rfl
theorem f_optr (e k els m) : AV.frz i (.optr j e k els m) = bif Nat.beq i j then .any else .optr j e k els m := rfl
theorem f_agg (cs : List AV) : AV.frz i (.agg cs) = .agg (mapC (AV.frz i) cs) := by
  show AV.mp _ _ = _
  rw [AV.mp, AV.mpL_eq, mapC_eq]; rfl
theorem f_tup (cs : List AV) : AV.frz i (.tup cs) = .tup (mapC (AV.frz i) cs) := by
  show AV.mp _ _ = _
  rw [AV.mp, AV.mpL_eq, mapC_eq]; rfl
theorem f_clo (fn : Go.Fn) (cs ds : List AV) : AV.frz i (.clo fn cs ds) = .clo fn (mapC (AV.frz i) cs) (mapC (AV.frz i) ds) := by
  show AV.mp _ _ = _
  rw [AV.mp, AV.mpL_eq, AV.mpL_eq, mapC_eq, mapC_eq]; rfl
end Nf
end Go.Ab
