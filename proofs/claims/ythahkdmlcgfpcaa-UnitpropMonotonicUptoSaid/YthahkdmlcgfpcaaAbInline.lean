/- Calls walked in place: the callee's body over the caller's own objects. -/
import Derived.Test.YthahkdmlcgfpcaaAbRange
set_option linter.unusedSimpArgs false
set_option linter.unusedVariables false
namespace Go.Ab
open Go Go.RowKit
attribute [local irreducible] HS
variable {P : Program} {g : Ghost} {δ : DS} {κ : Nat → Option Nat} {a : Act} {w : World}
variable {ops : Array Oper} {rest : List Oper} {Q : Exit → DS → Prop} {dst : Option Nat} {ty : TypeId} {pos : String} {af : Array Edge}

theorem look_enum_shift (l : List AV) (e : List (Nat × AV)) (hl : l.length ≤ HS) (j : Nat) : look (enum 0 l ++ shiftE e) j = if j < HS then look (enum 0 l) j else look e (j - HS) := by
  have happ : ∀ (l : List AV) (i : Nat), (∀ j, i + l.length ≤ j ∨ j < i → look (enum i l ++ shiftE e) j = look (shiftE e) j) ∧ (∀ j, i ≤ j → j < i + l.length → look (enum i l ++ shiftE e) j = look (enum i l) j) := by
    intro l
    induction l with
    | nil => intro i; exact ⟨fun j _ => rfl, fun j h1 h2 => by simp at h2; omega⟩
    | cons v l ih =>
      intro i
      obtain ⟨h1, h2⟩ := ih (i + 1)
      simp only [List.length_cons]
      refine ⟨fun j hj => ?_, fun j h3 h4 => ?_⟩
      · show look ((i, v) :: (enum (i + 1) l ++ shiftE e)) j = _
        rw [look_cons, if_neg (by omega)]
        exact h1 j (by omega)
      · show look ((i, v) :: (enum (i + 1) l ++ shiftE e)) j = look ((i, v) :: enum (i + 1) l) j
        rw [look_cons, look_cons]
        by_cases e : i = j
        · rw [if_pos e, if_pos e]
        · rw [if_neg e, if_neg e]
          exact h2 j (by omega) (by omega)
  obtain ⟨h1, h2⟩ := happ l 0
  by_cases hj : j < HS
  · rw [if_pos hj]
    by_cases hj2 : j < l.length
    · exact h2 j (Nat.zero_le _) (by omega)
    · rw [h1 j (by omega), look_shift_lt _ _ hj, look_enum_out l 0 j (by omega)]
  · rw [if_neg hj, h1 j (by omega)]
    obtain ⟨m, rfl⟩ : ∃ m, j = m + HS := ⟨j - HS, by omega⟩
    rw [look_shift, Nat.add_sub_cancel]

/-- how the callee's end goes on in the caller. -/
def inlEnds (P : Program) (rs : List ResultVar) (n : Nat) (dst : Option Nat) (K : DS → Prop) : Exit → DS → Prop
  | .normal, δ | .ret, δ => ∃ v, Res P δ rs v ∧ K ((roundBack n δ).putd dst v)
  | _, _ => False
theorem inlEnds_r {rs : List ResultVar} {n : Nat} {K : DS → Prop} {v : AV} (h : Res P δ rs v) (hK : K ((roundBack n δ).putd dst v)) : inlEnds P rs n dst K .ret δ := ⟨v, h, hK⟩
theorem inlEnds_n {rs : List ResultVar} {n : Nat} {K : DS → Prop} {v : AV} (h : Res P δ rs v) (hK : K ((roundBack n δ).putd dst v)) : inlEnds P rs n dst K .normal δ := ⟨v, h, hK⟩

theorem run_callv {gd : Option (Tmp × Bool)} {x : Operand} {f : FuncId} {vs us : Array Value} {xs : Array Operand} {tys : Array TypeId} {ρ : Operand → Value} (hx : ρ x = .func (.func f) vs us) (he : ∀ vals w, (callFunc f vals).run P w = .ok (.enter f vals) w) (w : World) :
    (execOp ρ ⟨dst, .call { callee := .value x, args := xs, argTypes := tys }, ty, pos, af, gd⟩).run P w = .ok (.enter f (vs ++ xs.map ρ ++ us)) w := by
  simp [execOp, resolve, Deferred.ofValue, invoke, hx, he]

/-- **A call, the callee walked in place.** -/
theorem AOps.inline {x : Operand} {xs : List Operand} {tys : Array TypeId} {f : FuncId} {first cap : List AV} {fn : Func} {c : Code} {n' : Nat} {rs : List ResultVar} (hwt : g.wt = none) (hx : δ.ev x = .clo (.func f) first cap) (ho : okT x = true) (hos : xs.all okT = true)
    (hf : P.funcs[f]? = some fn) (hb : fn.body = some c) (hrs : fn.results = rs.toArray) (hn : fn.ntmps = n') (hle : Nat.ble (first.length + xs.length + cap.length) n' = true) (hnH : Nat.ble n' HS = true) (hd : okD δ.n dst = true) (he : (fn.name == "runtime.NumGoroutine") = false)
    (h : ∀ g' : Ghost, g'.ro = none → g'.wt = none → AW P g' c (inlEnds P rs δ.n dst fun δ2 => AOps .plain P g ops rest Q δ2) { n := n', env := enum 0 (first ++ xs.map δ.ev ++ cap) ++ shiftE δ.env, objs := δ.objs, nx := δ.nx }) :
    AOps .plain P g ops (⟨dst, .call { callee := .value x, args := xs.toArray, argTypes := tys }, ty, pos, af, none⟩ :: rest) Q δ := by
  intro κ a w r
  have hra := r.ra hx ho
  generalize hv : a.eval x = v at hra
  cases hra with
  | @clo _ vs us _ _ hs hvs ht hus =>
    have hle' : first.length + xs.length + cap.length ≤ n' := by simpa using hle
    have hnH' : n' ≤ HS := by simpa using hnH
    obtain ⟨ms, hm1, hm2, hm3⟩ := r.dfr
    have hent : ∀ vals w, (callFunc f vals).run P w = .ok (.enter f vals) w := fun vals w => by simp [callFunc, hf, hb]; simpa using he
    show wpListIn _ _ P ops _ (_ :: rest) a w
    refine wpl_plain rfl rfl fun K hK' => ?_
    unfold Oper.wpF
    rw [run_callv hv hent, Oper.uponIn_enter]
    refine ⟨fun h => by simp at h, ?_⟩
    let args : Array Value := vs ++ xs.toArray.map a.eval ++ us
    let avs : List AV := first ++ xs.map δ.ev ++ cap
    have hsz : args.size = avs.length := by simp [args, avs]; omega
    have hal : avs.length = first.length + xs.length + cap.length := by simp [avs]; omega
    let g' : Ghost := { B := g.B, w0 := g.w0, N0 := g.N0, held := fun j => g.val a (j - HS), ro := none, mks := ms ++ g.mks, wt := none }
    let δ2 : DS := { n := n', env := enum 0 avs ++ shiftE δ.env, objs := δ.objs, nx := δ.nx }
    have hargs : ∀ (j : Nat) (u : Value) (av : AV), args[j]? = some u → avs[j]? = some av → RA (δ.cx g κ) w u av := by
      intro j u av h1 h2
      simp only [args] at h1
      simp only [avs] at h2
      by_cases hj : j < first.length + xs.length
      · rw [List.getElem?_append_left (by simp; omega)] at h2
        rw [Array.getElem?_append_left (by simp; omega)] at h1
        by_cases hj1 : j < first.length
        · rw [List.getElem?_append_left hj1] at h2
          rw [Array.getElem?_append_left (by omega)] at h1
          exact hvs j u av h1 h2
        · rw [List.getElem?_append_right (by omega)] at h2
          rw [Array.getElem?_append_right (by omega), hs] at h1
          simp only [List.map_toArray, List.getElem?_toArray, List.getElem?_map, Option.map_eq_some_iff] at h1 h2
          obtain ⟨y, h3, rfl⟩ := h1
          obtain ⟨y', h4, rfl⟩ := h2
          rw [h3] at h4; cases h4
          exact r.evc y (okT_spec ((List.all_eq_true.1 hos) y (List.mem_of_getElem? h3)))
      · rw [List.getElem?_append_right (by simp; omega)] at h2
        rw [Array.getElem?_append_right (by simp; omega)] at h1
        have e1 : (vs ++ xs.toArray.map a.eval).size = (first ++ xs.map δ.ev).length := by simp; omega
        rw [e1] at h1
        exact hus _ u av h1 h2
    have hrel : Rel g' δ2 κ { tmps := args ++ Array.replicate (fn.ntmps - args.size) undef, defers := [] } w :=
      { n := by show (args ++ Array.replicate (fn.ntmps - args.size) undef).size = n'; rw [Array.size_append, Array.size_replicate, hn, hsz]; omega
        dfr := ⟨[], rfl, hm2, hm3⟩
        env := fun j => by
          show RA (δ.cx g κ) w _ (look (enum 0 avs ++ shiftE δ.env) j)
          rw [look_enum_shift avs δ.env (by omega)]
          unfold Ghost.val
          by_cases hj : j < HS
          · rw [if_pos hj, if_pos hj]
            show RA (δ.cx g κ) w ((args ++ Array.replicate (fn.ntmps - args.size) undef).getD j undef) _
            by_cases hja : j < avs.length
            · have hav : (args ++ Array.replicate (fn.ntmps - args.size) undef).getD j undef = args[j] := by
                rw [Array.getD_eq_getD_getElem?, Array.getElem?_append_left (by omega), Array.getElem?_eq_getElem (by omega)]; rfl
              rw [hav, look_enum avs 0 j avs[j] (Nat.zero_le _) (by rw [Nat.sub_zero]; exact List.getElem?_eq_getElem hja)]
              exact hargs j _ _ (Array.getElem?_eq_getElem (by omega)) (List.getElem?_eq_getElem hja)
            · rw [look_enum_out avs 0 j (by omega)]; exact .any _
          · rw [if_neg hj, if_neg hj]
            exact r.env (j - HS)
        obj := r.obj, inj := r.inj, lo := r.lo, nx := r.nx, wt := fun k hk => (by cases hk), below := r.below, hB := r.hB, N0 := r.N0 }
    refine (show CallsIn (Fw none) (0 - 1) P f args w _ from callsIn_of_wp_marks (n := 0) hf hb trivial (wpIn_mono (h g' rfl rfl κ _ w hrel) ?_))
    rintro e a2 w2 ⟨δ3, κ3, hq, r3⟩
    have fin : ∀ v, Res P δ3 rs v → AOps .plain P g ops rest Q ((roundBack δ.n δ3).putd dst v) → LeavesInM (Fw none) 0 P fn a2.tmps (fun
        | .returned v, w'' => K (a.put dst v) w''
        | .panicked chain, w'' => lift g Q (.panic chain) a w''
        | .outgrown, _ => LetsOut (lift g Q)) a2.defers .returning w2 := by
      intro v h1 h2
      refine leaves (g := g') rfl hrs h1 r3 (fun w4 r4 u hu => ?_)
      have hd4 : Dfr g a w4 := by
        obtain ⟨rs4, k1, k2, k3⟩ := r4.dfr
        exact ⟨ms, hm1, (List.nodup_append.1 k2).2.1, fun k hk => k3 k (List.mem_append.2 (.inr hk))⟩
      have r5 := r4.frame (g := g) (a' := a) (n := δ.n) hwt rfl ⟨rfl, rfl, rfl⟩ (fun j => congrArg (g.val a) (Nat.add_sub_cancel j HS)) r.n hd4
      exact hK' _ _ (h2 κ3 _ _ (r5.putd (okD_spec hd) hu))
    cases e with
    | normal => obtain ⟨v, h1, h2⟩ := hq; exact fin v h1 h2
    | ret => obtain ⟨v, h1, h2⟩ := hq; exact fin v h1 h2
    | _ => exact hq.elim

end Go.Ab
namespace Go.Ab
section
variable {P : Program} {δ : DS} {n : Nat} {dst : Option Nat} {K : DS → Prop} {t t' : Tmp}
theorem inlEnds_rpv {p : PV} (ht : Nat.blt t HS = true) (h : δ.get t = .pv p) (hK : K ((roundBack n δ).putd dst (.pv p))) : inlEnds P [.tmp t] n dst K .ret δ := inlEnds_r (.one (.tmp ht h)) hK
theorem inlEnds_rown {i e k els} (ht : Nat.blt t HS = true) (h : δ.get t = .own i e k els) (hK : K ((roundBack n δ).putd dst (.own i e k els))) : inlEnds P [.tmp t] n dst K .ret δ := inlEnds_r (.one (.tmp ht h)) hK
theorem inlEnds_rptr {i o} (ht : Nat.blt t HS = true) (h : δ.get t = .ptr i o) (hK : K ((roundBack n δ).putd dst (.ptr i o))) : inlEnds P [.tmp t] n dst K .ret δ := inlEnds_r (.one (.tmp ht h)) hK
theorem inlEnds_r0 (hK : K ((roundBack n δ).putd dst (.tup []))) : inlEnds P [] n dst K .ret δ := inlEnds_r .none hK
theorem inlEnds_n0 (hK : K ((roundBack n δ).putd dst (.tup []))) : inlEnds P [] n dst K .normal δ := inlEnds_n .none hK
theorem inlEnds_rpp {p p' : PV} (ht : Nat.blt t HS = true) (h : δ.get t = .pv p) (ht' : Nat.blt t' HS = true) (h' : δ.get t' = .pv p') (hK : K ((roundBack n δ).putd dst (.tup [.pv p, .pv p']))) : inlEnds P [.tmp t, .tmp t'] n dst K .ret δ := inlEnds_r (.two (.tmp ht h) (.tmp ht' h')) hK
theorem inlEnds_rop {i e k els} {p' : PV} (ht : Nat.blt t HS = true) (h : δ.get t = .own i e k els) (ht' : Nat.blt t' HS = true) (h' : δ.get t' = .pv p') (hK : K ((roundBack n δ).putd dst (.tup [.own i e k els, .pv p']))) : inlEnds P [.tmp t, .tmp t'] n dst K .ret δ := inlEnds_r (.two (.tmp ht h) (.tmp ht' h')) hK
end
end Go.Ab
