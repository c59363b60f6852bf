/- Arguments read as data, told as values. -/
import Derived.Test.YthahkdmlcgfpcaaAbFrz
import Derived.ProofKit
import Derived.OpenShut
import Derived.ChangeOld
import Derived.SizedLaws
import Derived.JoinedCond
import Derived.Deep.CondSized
set_option linter.unusedSimpArgs false
set_option linter.unusedVariables false
namespace Go.Ab
open Go Go.RowKit
variable {P : Program}

/-- cells, each as it is told. -/
def Reads (w : World) (cs : List Value) (ps : List PV) : Prop := cs.length = ps.length ∧ ∀ (j : Nat) (c : Value) (p : PV), cs[j]? = some c → ps[j]? = some p → RP (fun _ => True) w c p ∧ c.oneCell' = true
theorem Reads.one {w : World} {c : Value} {p : PV} (h : RP (fun _ => True) w c p) (h1 : c.oneCell' = true) : Reads w [c] [p] :=
  ⟨rfl, fun j c' p' h2 h3 => by
    cases j with
    | zero => simp at h2 h3; subst h2; subst h3; exact ⟨h, h1⟩
    | succ j => simp at h2⟩
theorem Reads.nil {w : World} : Reads w [] [] := ⟨rfl, fun j c p h => by simp at h⟩
theorem Reads.append {w : World} {cs cs' : List Value} {ps ps' : List PV} (h : Reads w cs ps) (h' : Reads w cs' ps') : Reads w (cs ++ cs') (ps ++ ps') := by
  refine ⟨by simp [h.1, h'.1], fun j c p h1 h2 => ?_⟩
  by_cases hj : j < cs.length
  · rw [List.getElem?_append_left hj] at h1
    rw [List.getElem?_append_left (by rw [← h.1]; exact hj)] at h2
    exact h.2 j c p h1 h2
  · rw [List.getElem?_append_right (by omega)] at h1
    rw [List.getElem?_append_right (by rw [← h.1]; omega), ← h.1] at h2
    exact h'.2 _ c p h1 h2

/-- data of type t read as an α, told by enc. -/
def Rd (P : Program) (t : TypeId) {α : Type} (enc : α → List PV) (ok : α → Prop) : Prop :=
  ∀ {H : Type} (en : TypeId × Value → H) (w : World) (sp : Nat → Bool) (fuel : Nat) (cs : List Value) (x : DataW H × List MemPlace), DataW.trod en P w 0 sp true fuel t cs = some x →
    (∀ n ∈ x.1.weights P t, n ≤ reachBytes) → ∃ a : α, Reads w cs (enc a) ∧ ok a

theorem Rd.int {t : TypeId} {k : IntKind} (ht : P.underlying t = some (.int k)) : Rd P t (fun n : Int => [.lit (.int k n)]) (fun n => (Lit.int k n).wf = true) := by
  intro H en w sp fuel cs x h _
  obtain ⟨n, rfl, _, hw⟩ := DataW.trod_int ht h
  exact ⟨n, .one (.lit _) rfl, hw⟩
theorem Rd.bool {t : TypeId} (ht : P.underlying t = some .bool) : Rd P t (fun b : Bool => [.lit (.bool b)]) (fun _ => True) := by
  intro H en w sp fuel cs x h _
  obtain ⟨b, rfl, _⟩ := DataW.trod_bool ht h
  exact ⟨b, .one (.lit _) rfl, trivial⟩
theorem Rd.string {t : TypeId} (ht : P.underlying t = some .string) : Rd P t (fun s : ByteArray => [.lit (.string s)]) (fun s => s.size ≤ reachBytes) := by
  intro H en w sp fuel cs x h hw
  obtain ⟨s, rfl, rfl, hs⟩ := DataW.trod_string ht h
  exact ⟨s, .one (.lit _) rfl, by have := hw s.data.toList.length (by simp [DataW.weights]); simpa using this⟩
theorem mem_weightsAll {H : Type} {e : TypeId} : ∀ {ds : List (DataW H)} {d : DataW H}, d ∈ ds → ∀ n ∈ d.weights P e, n ∈ DataW.weightsAll P e ds
  | d0 :: ds, d, h, n, hn => by
    simp only [DataW.weightsAll, List.mem_append]
    rcases List.mem_cons.1 h with rfl | h
    · exact .inl hn
    · exact .inr (mem_weightsAll h n hn)
theorem mapM_at {α β : Type} {f : α → Option β} : ∀ {l : List α} {r : List β}, l.mapM f = some r → r.length = l.length ∧ ∀ (j : Nat) (x : α), l[j]? = some x → f x = r[j]? := by
  intro l
  induction l with
  | nil => intro r h; simp at h; subst h; simp
  | cons x l ih =>
    intro r h
    rw [List.mapM_cons] at h
    cases hx : f x with
    | none => rw [hx] at h; simp at h
    | some y =>
      rw [hx] at h
      cases hl : l.mapM f with
      | none => rw [hl] at h; simp at h
      | some r' =>
        rw [hl] at h
        simp at h
        subst h
        obtain ⟨h1, h2⟩ := ih hl
        refine ⟨by simp [h1], fun j z hz => ?_⟩
        cases j with
        | zero => simp at hz; subst hz; simp [hx]
        | succ j => simp at hz; simpa using h2 j z hz
theorem cells_at {w : World} {a : Addr} {n : Nat} {cs : List Value} (h : w.cells? 0 a n = some cs) : cs.length = n ∧ ∀ j, j < n → w.cell? (a.add j) = cs[j]? := by
  unfold World.cells? at h
  rw [if_pos (Nat.zero_le _)] at h
  obtain ⟨h1, h2⟩ := mapM_at h
  refine ⟨by simpa using h1, fun j hj => ?_⟩
  exact h2 j j (by simp [hj])
theorem cell_none {w : World} {ad : Addr} {v : Value} (h : w.cell? ad = some v) : ad.spot = none := World.cell?_spot h
/-- a slice's elements. -/
theorem Rd.slice {α : Type} {t e : TypeId} {k by' : Nat} {enc : α → List PV} {ok : α → Prop} (ht : P.underlying t = some (.slice e)) (hk : P.cellsOf e = k) (hk0 : 0 < k) (hb : P.bytesOf e = by') (hb0 : 0 < by') (hen : ∀ a, (enc a).length = k) (h : Rd P e enc ok) :
    Rd P t (fun l : List α => [.slice k (l.map enc)]) (fun l => l.length * by' ≤ reachBytes ∧ ∀ a ∈ l, ok a) := by
  intro H en w sp fuel cs x hx hw
  rcases DataW.trod_slice ht hx with ⟨rfl, rfl⟩ | ⟨a, len, cap, elems, rest, n, rfl, rfl, rfl, _, hlc, hcm, hel, hat, _, _⟩
  · refine ⟨[], .one (rp_nil k) rfl, by simp, by simp⟩
  · have hwl : (elems.length + rest.length) * by' ≤ reachBytes := by
      have := hw ((elems.length + rest.length) * by') (by simp [DataW.weights, ht, hb])
      exact this
    have hel2 : elems.length * by' ≤ reachBytes := Nat.le_trans (Nat.mul_le_mul_right _ (by omega)) hwl
    have hlen : elems.length ≤ 140737488355328 := by
      have h1 : elems.length * 1 ≤ elems.length * by' := Nat.mul_le_mul_left _ hb0
      have h2 : reachBytes ≤ 140737488355328 := by decide
      omega
    -- the elements, one by one
    have key : ∀ i, i < len → ∃ c a', w.cells? 0 (a.add (i * k)) k = some c ∧ Reads w c (enc a') ∧ ok a' := by
      intro i hi
      have h1 := hat i hi
      rw [hk] at h1
      have hi2 : i < elems.length := by omega
      rw [List.getElem?_eq_getElem hi2] at h1
      cases hc : w.cells? 0 (a.add (i * k)) k with
      | none => rw [hc] at h1; simp at h1
      | some c =>
        rw [hc, Option.bind_some] at h1
        obtain ⟨a', h2, h3⟩ := h en w sp n c elems[i] h1 (fun m hm => hw m (by
          simp only [DataW.weights, ht, List.mem_cons, List.mem_append]
          exact .inr (.inl (mem_weightsAll (List.mem_map.2 ⟨elems[i], List.getElem_mem hi2, rfl⟩) m hm))))
        exact ⟨c, a', rfl, h2, h3⟩
    have hch : ∃ l : List α, l.length = len ∧ ∀ i (a' : α), l[i]? = some a' → ∃ c, w.cells? 0 (a.add (i * k)) k = some c ∧ Reads w c (enc a') ∧ ok a' := by
      clear hat hx hel hw
      have : ∀ m, m ≤ len → ∃ l : List α, l.length = m ∧ ∀ i (a' : α), l[i]? = some a' → ∃ c, w.cells? 0 (a.add (i * k)) k = some c ∧ Reads w c (enc a') ∧ ok a' := by
        intro m
        induction m with
        | zero => intro _; exact ⟨[], rfl, by simp⟩
        | succ m ih =>
          intro hm
          obtain ⟨l, h1, h2⟩ := ih (by omega)
          obtain ⟨c, a', h3, h4⟩ := key m (by omega)
          refine ⟨l ++ [a'], by simp [h1], fun i b hb => ?_⟩
          by_cases hi : i < l.length
          · rw [List.getElem?_append_left hi] at hb; exact h2 i b hb
          · rw [List.getElem?_append_right (by omega)] at hb
            have hi2 : i = m := by have := (List.getElem?_eq_some_iff.1 hb).1; simp at this; omega
            subst hi2
            rw [h1] at hb
            simp at hb
            subst hb
            exact ⟨c, h3, h4⟩
      exact this len (Nat.le_refl _)
    obtain ⟨l, hl, hl2⟩ := hch
    have hle : l.length = elems.length := by omega
    refine ⟨l, .one ?_ rfl, by rw [hle]; exact hel2, fun b hb => ?_⟩
    · have hsp : l ≠ [] → a.spot = none := by
        intro hne
        obtain ⟨b, l', rfl⟩ := List.exists_cons_of_ne_nil hne
        obtain ⟨c, h1, h2, _⟩ := hl2 0 b rfl
        obtain ⟨h3, h4⟩ := cells_at h1
        have h5 := h4 0 hk0
        rw [List.getElem?_eq_getElem (by omega)] at h5
        have h6 := cell_none h5
        simpa [Addr.add] using h6
      have hbl : l ≠ [] → a.block < w.heap.size := by
        intro hne
        obtain ⟨b, l', rfl⟩ := List.exists_cons_of_ne_nil hne
        obtain ⟨c, h1, h2, _⟩ := hl2 0 b rfl
        obtain ⟨h3, h4⟩ := cells_at h1
        have h5 := h4 0 hk0
        rw [List.getElem?_eq_getElem (by omega)] at h5
        simp only [Nat.zero_mul, Addr.add, if_true] at h5
        unfold World.cell? at h5
        rcases Nat.lt_or_ge a.block w.heap.size with hlt | hge
        · exact hlt
        · rw [Array.getElem?_eq_none hge] at h5; simp at h5
      obtain ⟨bl, off, spot⟩ := a
      have hcl : ∀ (i j : Nat) (p : PV), cellAt (l.map enc) i j = some p → ∃ c : Value, w.cell? ⟨bl, off + i * k + j, none⟩ = some c ∧ RP (fun _ => True) w c p ∧ c.oneCell' = true := by
        intro i j p hp
        unfold cellAt at hp
        rw [List.getElem?_map] at hp
        cases hli : l[i]? with
        | none => rw [hli] at hp; simp at hp
        | some b =>
          rw [hli] at hp
          simp at hp
          have hne : l ≠ [] := by rintro rfl; simp at hli
          have hs0 : spot = none := hsp hne
          subst hs0
          obtain ⟨c, h1, h2, _⟩ := hl2 i b hli
          obtain ⟨h3, h4⟩ := cells_at h1
          have hj : j < k := by have := (List.getElem?_eq_some_iff.1 hp).1; rw [hen] at this; exact this
          have h5 := h4 j hj
          rw [List.getElem?_eq_getElem (by omega)] at h5
          rw [addr_add, addr_add] at h5
          obtain ⟨h6, h7⟩ := h2.2 j _ p (List.getElem?_eq_getElem (by omega)) hp
          exact ⟨_, h5, h6, h7⟩
      refine .slice bl off (fun i j => (w.cell? ⟨bl, off + i * k + j, none⟩).getD undef) (by simp [hl]) (by omega) (by omega) (fun hne => ?_) (fun c hc => ?_) (fun i j p hp => ?_) (fun i j p hp => ?_)
      · have hne' : l ≠ [] := by rintro rfl; simp at hne
        have hs0 : spot = none := hsp hne'
        subst hs0
        exact ⟨rfl, trivial, hbl hne'⟩
      · obtain ⟨b, _, rfl⟩ := List.mem_map.1 hc; exact hen b
      · obtain ⟨c, h1, h2, h3⟩ := hcl i j p hp
        rw [h1]; exact ⟨rfl, h3⟩
      · obtain ⟨c, h1, h2, h3⟩ := hcl i j p hp
        rw [h1]; exact h2
    · obtain ⟨i, hi⟩ := List.getElem?_of_mem hb
      obtain ⟨c, _, _, h3⟩ := hl2 i b hi
      exact h3

/-- a struct's fields, one behind the other. -/
def RdF (P : Program) (off n : Nat) (fs : List Field) {α : Type} (enc : α → List PV) (ok : α → Prop) : Prop :=
  ∀ {H : Type} (en : TypeId × Value → H) (w : World) (sp : Nat → Bool) (fuel : Nat) (cs : List Value) (xs : List (DataW H × List MemPlace)), xs.length = fs.length →
    (∀ (i : Nat) (f : Field), fs[i]? = some f → DataW.trod en P w 0 sp true fuel f.type ((cs.drop f.offset).take (P.cellsOf f.type)) = xs[i]?) →
    (∀ m ∈ DataW.weightsEach P (fs.map (·.type)) (xs.map (·.1)), m ≤ reachBytes) → ∃ a : α, Reads w ((cs.drop off).take n) (enc a) ∧ ok a
theorem RdF.nil {off : Nat} : RdF P off 0 [] (fun _ : Unit => []) (fun _ => True) := fun _ _ _ _ _ _ _ _ _ => ⟨(), by simp; exact Reads.nil, trivial⟩
theorem RdF.cons {off k n : Nat} {f : Field} {fs : List Field} {α β : Type} {e1 : α → List PV} {o1 : α → Prop} {e2 : β → List PV} {o2 : β → Prop} (hoff : f.offset = off) (hk : P.cellsOf f.type = k) (h1 : Rd P f.type e1 o1) (h2 : RdF P (off + k) n fs e2 o2) :
    RdF P off (k + n) (f :: fs) (fun p : α × β => e1 p.1 ++ e2 p.2) (fun p => o1 p.1 ∧ o2 p.2) := by
  intro H en w sp fuel cs xs hl hx hw
  cases xs with
  | nil => simp at hl
  | cons y ys =>
    have h3 := hx 0 f rfl
    obtain ⟨a, ha, ha2⟩ := h1 en w sp fuel _ y h3 (fun m hm => hw m (by simp [DataW.weightsEach, hm]))
    obtain ⟨b, hb, hb2⟩ := h2 en w sp fuel cs ys (by simpa using hl) (fun i f' hf => by simpa using hx (i + 1) f' (by simpa using hf)) (fun m hm => hw m (by simp only [List.map_cons, DataW.weightsEach, List.mem_append]; exact .inr hm))
    refine ⟨(a, b), ?_, ha2, hb2⟩
    rw [hoff, hk] at ha
    have e : (cs.drop off).take (k + n) = (cs.drop off).take k ++ (cs.drop (off + k)).take n := by
      rw [List.take_add, List.drop_drop]
    rw [e]
    exact ha.append hb
theorem Rd.struct {t : TypeId} {fs : Array Field} {n : Nat} {α : Type} {enc : α → List PV} {ok : α → Prop} (ht : P.underlying t = some (.struct fs)) (hn : P.cellsOf t = n) (h : RdF P 0 n fs.toList enc ok) : Rd P t enc ok := by
  intro H en w sp fuel cs x hx hw
  obtain ⟨xs, m, rfl, rfl, hcl, hl, hat⟩ := DataW.trod_struct ht hx
  obtain ⟨a, ha, ha2⟩ := h en w sp m cs xs (by simpa using hl) (fun i f hf => hat i f (by simpa using hf)) (fun k hk => hw k (by simpa [DataW.weights, ht] using hk))
  rw [List.drop_zero, List.take_of_length_le (by omega)] at ha
  exact ⟨a, ha, ha2⟩
/-- the same, told otherwise. -/
theorem Rd.map {t : TypeId} {α β : Type} {e1 : α → List PV} {o1 : α → Prop} {e2 : β → List PV} {o2 : β → Prop} (h : Rd P t e1 o1) (f : α → β) (he : ∀ a, e1 a = e2 (f a)) (ho : ∀ a, o1 a → o2 (f a)) : Rd P t e2 o2 := by
  intro H en w sp fuel cs x hx hw
  obtain ⟨a, h1, h2⟩ := h en w sp fuel cs x hx hw
  exact ⟨f a, he a ▸ h1, ho a h2⟩

/-! arguments -/
section
variable {H : Type} {en : TypeId × Value → H} {w : World} {sp : Nat → Bool} {t : TypeId} {v : Value} {d : DataW H} {ps : List MemPlace} {α : Type} {enc : α → List PV} {ok : α → Prop}
theorem arg_one {p : α → PV} (h : Rd P t (fun a => [p a]) ok) (ht : DataW.Trod en P w 0 sp true t v d ps) (hw : ∀ n ∈ d.weights P t, n ≤ reachBytes) (hv : v.cells.toList = [v]) : ∃ a : α, RA (pcx fun _ => True) w v (.pv (p a)) ∧ ok a := by
  obtain ⟨fuel, hf⟩ := ht
  obtain ⟨a, h1, h2⟩ := h en w sp fuel _ _ hf hw
  rw [hv] at h1
  exact ⟨a, .pv (h1.2 0 v (p a) rfl rfl).1, h2⟩
theorem arg_agg (h : Rd P t enc ok) (ht : DataW.Trod en P w 0 sp true t v d ps) (hw : ∀ n ∈ d.weights P t, n ≤ reachBytes) {cs : Array Value} (hv : v = .agg cs) : ∃ a : α, RA (pcx fun _ => True) w v (.agg ((enc a).map .pv)) ∧ ok a := by
  subst hv
  obtain ⟨fuel, hf⟩ := ht
  obtain ⟨a, h1, h2⟩ := h en w sp fuel _ _ hf hw
  refine ⟨a, .agg (by rw [List.length_map]; exact h1.1) fun j u c h3 h4 => ?_, h2⟩
  rw [List.getElem?_map, Option.map_eq_some_iff] at h4
  obtain ⟨p, hp, rfl⟩ := h4
  exact .pv (h1.2 j u p (by simpa [Value.cells] using h3) hp).1
theorem okWide_struct {r : Reach} {b : Nat} {fs : Array Field} (ht : P.underlying t = some (.struct fs)) (h : Value.okWide P w r b t v) : ∃ cs, v = .agg cs := by
  unfold Value.okWide at h
  simp only [ht] at h
  obtain ⟨cs, h, _⟩ := h
  exact ⟨cs, h⟩
theorem slice_cells {a : Option Addr} {l c : Nat} : (Value.slice a l c).cells.toList = [.slice a l c] := rfl
theorem int_cells {k : IntKind} {n : Int} : (Value.int k n).cells.toList = [.int k n] := rfl
theorem string_cells {s : ByteArray} : (Value.string s).cells.toList = [.string s] := rfl
theorem bool_cells {s : Bool} : (Value.bool s).cells.toList = [.bool s] := rfl
end
/-- the bound on what an argument holds. -/
theorem arg_weights {H : Type} {ts ts' : List TypeId} {ds gs : List (DataW H)} (h : (DataW.weightsEach P (ts ++ ts') (ds ++ gs)).all (· ≤ reachBytes) = true) {j : Nat} {t : TypeId} {d : DataW H} (ht : (ts ++ ts')[j]? = some t) (hd : (ds ++ gs)[j]? = some d) : ∀ n ∈ d.weights P t, n ≤ reachBytes := by
  intro n hn
  have := (List.all_eq_true.1 h) n (DataW.weights_mem_each ht hd n hn)
  simpa using this

/-! the numbers -/
theorem wf_i64 {n : Int} (h : (Lit.int .i64 n).wf = true) : -9223372036854775808 ≤ n ∧ n ≤ 9223372036854775807 := by
  simp only [Lit.wf, Bool.and_eq_true, decide_eq_true_eq] at h
  simpa [IntKind.min, IntKind.max, IntKind.signed, IntKind.bits] using h
theorem wf_u8 {n : Int} (h : (Lit.int .u8 n).wf = true) : 0 ≤ n ∧ n ≤ 255 := by
  simp only [Lit.wf, Bool.and_eq_true, decide_eq_true_eq] at h
  simpa [IntKind.min, IntKind.max, IntKind.signed, IntKind.bits] using h
end Go.Ab
