/- Chapter 24: all permutations of atoms; the symmetries, walked. -/
import Derived.Test.YtcklfjkaadfjjaaGreatApF1
import Derived.Test.YtcklfjkaadfjjaaGreatAbZ
import Derived.Test.YtcklfjkaadfjjaaGreatAbL3
import Derived.Test.YtcklfjkaadfjjaaGreatApE5
set_option linter.unusedSimpArgs false
set_option linter.unusedVariables false
namespace Go.Ab
open Go Go.Proofs
open Nat (reduceAdd reduceSub)
set_option maxRecDepth 20000
set_option maxHeartbeats 4000000
def okX (srt : Int → Int) (i : Nat) (p : List Int) (x : Nat) : Bool := decide (srt x = srt i) && !decide ((x : Int) ∈ p)
def extM (srt : Int → Int) (i : Nat) (p : List Int) (x : Nat) : List (List Int) := ((List.range x).filter (okX srt i p)).map fun x : Nat => p ++ [(x : Int)]
theorem extM_snoc (srt : Int → Int) (i : Nat) (p : List Int) (x : Nat) : extM srt i p (x + 1) = extM srt i p x ++ if okX srt i p x = true then [p ++ [(x : Int)]] else [] := by
  unfold extM
  rw [List.range_succ, List.filter_append, List.map_append]
  congr 1
  by_cases h : okX srt i p x = true
  · rw [if_pos h, List.filter_cons, if_pos h]; rfl
  · rw [if_neg h, List.filter_cons, if_neg h]; rfl
theorem extM_zero (srt : Int → Int) (i : Nat) (p : List Int) : extM srt i p 0 = [] := rfl
theorem extM_len (srt : Int → Int) (i : Nat) (p : List Int) (x : Nat) : (extM srt i p x).length ≤ x := by
  unfold extM
  rw [List.length_map]
  exact Nat.le_trans (List.length_filter_le _ _) (by rw [List.length_range]; exact Nat.le_refl _)
def nextM (n : Nat) (srt : Int → Int) (i : Nat) (l : List (List Int)) (k : Nat) : List (List Int) := (l.take k).flatMap fun p => extM srt i p n
theorem nextM_snoc (n : Nat) (srt : Int → Int) (i : Nat) {l : List (List Int)} {k : Nat} (h : k < l.length) : nextM n srt i l (k + 1) = nextM n srt i l k ++ extM srt i l[k] n := by
  unfold nextM
  rw [take_succ_get h, List.flatMap_append]
  simp
theorem nextM_zero (n : Nat) (srt : Int → Int) (i : Nat) (l : List (List Int)) : nextM n srt i l 0 = [] := rfl
theorem nextM_all (n : Nat) (srt : Int → Int) (i : Nat) : nextM n srt i (allM n srt i) (allM n srt i).length = allM n srt (i + 1) := by
  unfold nextM
  rw [List.take_length]; rfl
theorem nextM_len (n : Nat) (srt : Int → Int) (i : Nat) (l : List (List Int)) : ∀ k, k ≤ l.length → (nextM n srt i l k).length ≤ k * n
  | 0, _ => Nat.zero_le _
  | k + 1, h => by
    rw [nextM_snoc n srt i (by omega), List.length_append, Nat.succ_mul]
    have := nextM_len n srt i l k (by omega)
    have := extM_len srt i (l[k]'(by omega)) n
    omega
theorem allM_len (n : Nat) (srt : Int → Int) : ∀ i, (allM n srt i).length ≤ n ^ i
  | 0 => Nat.le_refl _
  | i + 1 => by
    rw [← nextM_all, Nat.pow_succ]
    exact Nat.le_trans (nextM_len n srt i _ _ (Nat.le_refl _)) (Nat.mul_le_mul_right _ (allM_len n srt i))
theorem allM_small {n : Nat} (h : n ≤ 5) (srt : Int → Int) {i : Nat} (hi : i ≤ n) : (allM n srt i).length ≤ 3125 := by
  refine Nat.le_trans (allM_len n srt i) ?_
  have h1 : n ^ i ≤ 5 ^ i := Nat.pow_le_pow_left h i
  have h2 : 5 ^ i ≤ 5 ^ 5 := Nat.pow_le_pow_right (by omega) (by omega)
  omega
theorem all_len {n : Nat} {srt : Int → Int} {i : Nat} {p : List Int} (h : p ∈ allM n srt i) : p.length = i := (allM_mem.1 h).1
abbrev srtF (at' : List Int) (x : Int) : Int := sortF at' x 0
abbrev encLL (c : List Int) : List PV := [ints c]
attribute [local irreducible] AW AOps thenD inBlockD AR iterEnds roundEndsN inlEnds noGotoD extM nextM allM
theorem all11_fn (at' : List Int) (st : Int) (n : Nat) (h : SmA at') (hn : (n : Int) = at'.sum) (h5 : n ≤ 5) : Fn Tryz.prog 84 [scp at' st] (.pv (intss (allM n (srtF at') n))) := by
  have ha := atoms11_fn at' st h
  rw [← hn] at ha
  have hso := fun x hx => sort11_fn at' st x h hx
  refine Fn.enter (n := 70) Tryz.func84 rfl rfl rfl rfl rfl (by decide) fun g hro_ hwt_ => ?_; (try refine nz ?_)
  (refine Q64 ?_; refine Q51 ?_; refine Q215 ?_; refine AOps.frzB rfl rfl ?_; refine nz ?_; refine Q50 ?_; refine Q31 ?_; refine Q4 ?_; refine Q41 ?_; refine zA (ha) ?_; refine Q135 ?_)
  (refine nz ?_; apply AW.loopR [4, 2, 1] [0] (fun i : Nat => ([(5, litI i), (3, .pv (intss (allM n (srtF at') i)))] : List (Nat × AV))) (fun i : Nat => ([] : List (Nat × Option Ob))) (fun i : Nat => i ≤ n) (fun i : Nat => n - i) (0); (conv => lhs; simp only [Nf.lpR, Nf.all, Nat.reduceBEq, reduceAdd, reduceSub]); (all_goals skip))
  · exact Nat.zero_le _
  · exact weak rfl (by (refine ⟨.intE (by first | with_reducible rfl | (first | rfl | (unfold allM; rfl))), ?_⟩; refine ⟨.freezeE rfl (by first | with_reducible rfl | (first | rfl | (unfold allM; rfl))), ?_⟩; refine ⟨.intE (by first | with_reducible rfl | (first | rfl | (unfold allM; rfl))), ?_⟩; (iterate 2 refine ⟨.eq rfl rfl, ?_⟩); exact trivial)) (by (refine ⟨.box _ rfl ?_, ?_⟩; refine ⟨.pvE (by first | with_reducible rfl | (first | rfl | (unfold allM; rfl))), ?_⟩; refine ⟨.intE (by first | with_reducible rfl | (first | rfl | (unfold allM; rfl))), ?_⟩; (iterate 2 exact trivial))) rfl
  rintro i hi
  have hal := allM_small h5 (srtF at') hi
  by_cases hlt : i < n
  · have hna := nextM_all n (srtF at') i
    have hpl := fun p (h : p ∈ allM n (srtF at') i) => all_len h
    generalize allM n (srtF at') i = l at hal hna hpl ⊢
    have hnl := nextM_len n (srtF at') i l
    (refine Q91 ?_; refine Q185 ?_; refine Q299 ?_; refine Q215 ?_; refine Q31 ?_; refine Q30 ?_; refine Q75 ?_)
    (refine nz ?_; apply AW.loopR [5, 3, 4, 2, 1] [0] (fun k : Nat => ([(7, litI k), (6, .own 3 28 1 ((nextM n (srtF at') i l k).map encLL))] : List (Nat × AV))) (fun k : Nat => ([(3, some .row)] : List (Nat × Option Ob))) (fun k : Nat => k ≤ l.length) (fun k : Nat => l.length - k) (0); (conv => lhs; simp only [Nf.lpR, Nf.all, Nat.reduceBEq, reduceAdd, reduceSub]); (all_goals skip))
    · exact Nat.zero_le _
    · rw [nextM_zero]
      exact Q112
    rintro k hk
    have hnk := hnl k hk
    have hkn : k * n ≤ 3125 * 5 := Nat.mul_le_mul (by omega) h5
    by_cases hlt2 : k < l.length
    · have hsn := nextM_snoc n (srtF at') i hlt2
      have hpk := hpl _ (List.getElem_mem hlt2)
      (refine Q10 ?_; refine Q94 ?_; refine Q75 ?_)
      (refine nz ?_; apply AW.loopR [7, 5, 3, 4, 2, 1] [0] (fun x : Nat => ([(8, litI x), (6, .own 3 28 1 ((nextM n (srtF at') i l k ++ extM (srtF at') i l[k] x).map encLL))] : List (Nat × AV))) (fun x : Nat => ([(3, some .row)] : List (Nat × Option Ob))) (fun x : Nat => x ≤ n) (fun x : Nat => n - x) (0); (conv => lhs; simp only [Nf.lpR, Nf.all, Nat.reduceBEq, reduceAdd, reduceSub]); (all_goals skip))
      · exact Nat.zero_le _
      · rw [extM_zero, List.append_nil]
        exact Q112
      rintro x hx
      have hex := extM_len (srtF at') i l[k] x
      by_cases hlt3 : x < n
      · have hes := extM_snoc (srtF at') i l[k] x
        have s1 := hso (x : Int) (by omega)
        have s2 := hso (i : Int) (by omega)
        have hh := has11_fn l[k] (x : Int) (by omega)
        have hok : okX (srtF at') i l[k] x = (decide (sortF at' (x : Int) 0 = sortF at' (i : Int) 0) && !decide ((x : Int) ∈ l[k])) := rfl
        obtain ⟨sx, hsx⟩ : ∃ sx, sx = sortF at' (x : Int) 0 := ⟨_, rfl⟩
        obtain ⟨si, hsi⟩ : ∃ si, si = sortF at' (i : Int) 0 := ⟨_, rfl⟩
        rw [← hsx] at s1 hok
        rw [← hsi] at s2 hok
        by_cases hxi : sx = si
        · rw [decide_eq_true hxi, Bool.true_and] at hok
          by_cases hm : (x : Int) ∈ l[k]
          · rw [decide_eq_true hm] at hh hok
            rw [hok, if_neg (by decide), List.append_nil] at hes
            (refine Q91 ?_; refine Q185 ?_; refine Q287 ?_; (iterate 2 refine zo ?_); (with_reducible apply AW.regionQ); exact rfl; exact rfl; kernel_rfl; (with_reducible assumption); refine Q268 ?_; refine Q13 ?_; refine Q131 ?_; (focus ((with_reducible apply AOps.index_map); (iterate 7 exact rfl); rotate_left; omega)); refine Q277 ?_; refine Q131 ?_; refine zA (hh) ?_; refine zF ?_; refine Q251 ?_; refine Q304 ?_; refine zm ?_; refine zj ?_; refine Q5 ?_)
            exact Q72
          · rw [decide_eq_false hm] at hh hok
            rw [hok, if_pos (by decide)] at hes
            (refine Q91 ?_; refine Q185 ?_; refine Q287 ?_; (iterate 2 refine zo ?_); (with_reducible apply AW.regionQ); exact rfl; exact rfl; kernel_rfl; (with_reducible assumption); refine Q268 ?_; refine Q13 ?_; refine Q131 ?_; (focus ((with_reducible apply AOps.index_map); (iterate 7 exact rfl); rotate_left; omega)); refine Q277 ?_; refine Q131 ?_; refine zA (hh) ?_; refine zF ?_; refine Q45 ?_; refine Q157 ?_; refine Q215 ?_; (iterate 2 refine zm ?_); (focus ((with_reducible apply AOps.index_map); (iterate 7 exact rfl); rotate_left; omega)); refine zr ?_; (with_reducible apply AOps.appendS); exact rfl; (first | exact .pv rfl | exact .own rfl | exact .nil rfl); (iterate 9 exact rfl); (first | omega | (simp only [List.length_map, List.length_append, List.length_cons, List.length_nil, List.length_drop, List.length_take, List.length_set, chunk_len]; omega)); refine Q324 ?_; refine zm ?_; refine Q50 ?_; (with_reducible apply AOps.appendS); exact rfl; (first | exact .pv rfl | exact .own rfl | exact .nil rfl); (iterate 9 exact rfl); (first | omega | (simp only [List.length_map, List.length_append, List.length_cons, List.length_nil, List.length_drop, List.length_take, List.length_set, chunk_len]; omega)); refine nz ?_; refine Q31 ?_; refine Q179 ?_; (iterate 2 refine AOps.move_own rfl rfl rfl ?_); refine AOps.frzB rfl rfl ?_; refine nz ?_; refine Q50 ?_; (with_reducible apply AOps.appendS); exact rfl; (first | exact .pv rfl | exact .own rfl | exact .nil rfl); (iterate 9 exact rfl); (first | omega | (simp only [List.length_map, List.length_append, List.length_cons, List.length_nil, List.length_drop, List.length_take, List.length_set, chunk_len]; omega)); refine Q300 ?_)
            exact ⟨x + 1, by omega, by omega, weak rfl (by (refine ⟨.intE (by first | with_reducible rfl | (first | rfl | (rw [hes, ← List.append_assoc, List.map_append]; rfl) | (rw [hes, ← List.append_assoc, List.map_append]; simp [encLL]; rfl))), ?_⟩; refine ⟨.ownE (by first | with_reducible rfl | (first | rfl | (rw [hes, ← List.append_assoc, List.map_append]; rfl) | (rw [hes, ← List.append_assoc, List.map_append]; simp [encLL]; rfl))) rfl, ?_⟩; refine ⟨.intE (by first | with_reducible rfl | (first | rfl | (rw [hes, ← List.append_assoc, List.map_append]; rfl) | (rw [hes, ← List.append_assoc, List.map_append]; simp [encLL]; rfl))), ?_⟩; refine ⟨.intE (by first | with_reducible rfl | (first | rfl | (rw [hes, ← List.append_assoc, List.map_append]; rfl) | (rw [hes, ← List.append_assoc, List.map_append]; simp [encLL]; rfl))), ?_⟩; refine ⟨.pvE (by first | with_reducible rfl | (first | rfl | (rw [hes, ← List.append_assoc, List.map_append]; rfl) | (rw [hes, ← List.append_assoc, List.map_append]; simp [encLL]; rfl))), ?_⟩; refine ⟨.intE (by first | with_reducible rfl | (first | rfl | (rw [hes, ← List.append_assoc, List.map_append]; rfl) | (rw [hes, ← List.append_assoc, List.map_append]; simp [encLL]; rfl))), ?_⟩; (iterate 2 refine ⟨.eq rfl rfl, ?_⟩); exact trivial)) (by (refine ⟨.row rfl, ?_⟩; refine ⟨.box _ rfl ?_, ?_⟩; refine ⟨.pvE (by first | with_reducible rfl | (first | rfl | (rw [hes, ← List.append_assoc, List.map_append]; rfl) | (rw [hes, ← List.append_assoc, List.map_append]; simp [encLL]; rfl))), ?_⟩; refine ⟨.intE (by first | with_reducible rfl | (first | rfl | (rw [hes, ← List.append_assoc, List.map_append]; rfl) | (rw [hes, ← List.append_assoc, List.map_append]; simp [encLL]; rfl))), ?_⟩; (iterate 2 exact trivial))) rfl⟩
        · rw [decide_eq_false hxi, Bool.false_and] at hok
          rw [hok, if_neg (by decide), List.append_nil] at hes
          (refine Q91 ?_; refine Q185 ?_; refine Q287 ?_; (iterate 2 refine zo ?_); (with_reducible apply AW.regionQ); exact rfl; exact rfl; kernel_rfl; (with_reducible assumption); refine Q268 ?_; refine zm ?_; refine Q283 ?_; refine Q251 ?_; refine Q304 ?_; refine zm ?_; refine zj ?_; refine Q5 ?_)
          exact Q72
      · obtain rfl : x = n := by omega
        (refine Q91 ?_; refine zs ?_; refine Q63 ?_; refine Q29 ?_)
        exact ⟨k + 1, by omega, by omega, weak rfl (by (refine ⟨.intE (by first | with_reducible rfl | (first | rfl | (rw [hsn]))), ?_⟩; refine ⟨.ownE (by first | with_reducible rfl | (first | rfl | (rw [hsn]))) rfl, ?_⟩; refine ⟨.intE (by first | with_reducible rfl | (first | rfl | (rw [hsn]))), ?_⟩; refine ⟨.pvE (by first | with_reducible rfl | (first | rfl | (rw [hsn]))), ?_⟩; refine ⟨.intE (by first | with_reducible rfl | (first | rfl | (rw [hsn]))), ?_⟩; (iterate 2 refine ⟨.eq rfl rfl, ?_⟩); exact trivial)) (by (refine ⟨.row rfl, ?_⟩; refine ⟨.box _ rfl ?_, ?_⟩; refine ⟨.pvE (by first | with_reducible rfl | (first | rfl | (rw [hsn]))), ?_⟩; refine ⟨.intE (by first | with_reducible rfl | (first | rfl | (rw [hsn]))), ?_⟩; (iterate 2 exact trivial))) rfl⟩
    · obtain rfl : k = l.length := by omega
      rw [hna]
      (refine Q10 ?_; refine Q201 ?_; refine thenD_n ?_; refine Q85 ?_; refine Q55 ?_)
      exact ⟨i + 1, by omega, by omega, weak rfl (by (first | (refine ⟨.eq rfl rfl, ?_⟩; (iterate 7 refine ⟨.eq rfl rfl, ?_⟩); exact trivial) | (refine ⟨.eq rfl rfl, ?_⟩; (iterate 6 refine ⟨.eq rfl rfl, ?_⟩); exact trivial) | (refine ⟨.eq rfl rfl, ?_⟩; refine ⟨.freeze rfl, ?_⟩; (iterate 3 refine ⟨.eq rfl rfl, ?_⟩); exact trivial))) (by (first | (refine ⟨.row rfl, ?_⟩; refine ⟨.box _ rfl ?_, ?_⟩; (iterate 2 refine ⟨.eq rfl rfl, ?_⟩); (iterate 2 exact trivial)) | (refine ⟨.box _ rfl ?_, ?_⟩; (iterate 2 refine ⟨.eq rfl rfl, ?_⟩); (iterate 2 exact trivial)))) rfl⟩
  · obtain rfl : i = n := by omega
    (refine Q91 ?_; refine zs ?_; refine Q63 ?_; refine Q157 ?_; refine zm ?_; refine Q42 ?_)
    (apply ends_ret; (exact Res.one (.tmp rfl rfl)); (refine Le.pvE ?_; (rfl)))
def fxF (so : List SortM) (at' : List Int) (x : Int) : Bool := decide (0 ≤ sortF at' x 0) && (decide (sortF at' x 0 < (so.length : Int)) && (so.getD (sortF at' x 0).toNat (ByteArray.empty, false)).2)
def fixX (so : List SortM) (at' p : List Int) (x : Nat) : Bool := !fxF so at' x || decide (p.getD x 0 = (x : Int))
def fixB (so : List SortM) (at' p : List Int) : Bool := (List.range p.length).all (fixX so at' p)
theorem rangeAll (f : Nat → Bool) (k : Nat) : (List.range (k + 1)).all f = ((List.range k).all f && f k) := by
  rw [List.range_succ, List.all_append]; simp
theorem rangeNot {f : Nat → Bool} {n k : Nat} (h : k < n) (hf : f k = false) : (List.range n).all f = false := by
  rw [List.all_eq_false]
  exact ⟨k, List.mem_range.2 h, by rw [hf]; simp⟩
attribute [local irreducible] fixB fixX sortF
theorem fixes_fn (s : SpecM) (at' : List Int) (st : Int) (p : List Int) (h : SmA at') (hl : p.length ≤ 100) : Fn Tryz.prog 85 [spc s, scp at' st, .pv (ints p)] (litB (fixB s.sorts at' p)) := by
  have hso := fun x hx => rSort_fn at' st x h hx
  obtain ⟨so, fs, pr, fa⟩ := s
  simp only
  have hfb : fixB so at' p = (List.range p.length).all (fixX so at' p) := by unfold fixB; rfl
  refine Fn.enter (n := 43) Tryz.func85 rfl rfl rfl rfl rfl (by decide) fun g hro_ hwt_ => ?_; (try refine nz ?_)
  (refine Q105 ?_; refine Q135 ?_)
  (refine nz ?_; apply AW.loopR [4, 3, 2] [1, 0] (fun k : Nat => ([(7, litI k)] : List (Nat × AV))) (fun k : Nat => ([] : List (Nat × Option Ob))) (fun k : Nat => k ≤ p.length ∧ (List.range k).all (fixX so at' p) = true) (fun k : Nat => p.length - k) (0); (conv => lhs; simp only [Nf.lpR, Nf.all, Nat.reduceBEq, reduceAdd, reduceSub]); (all_goals skip))
  · exact ⟨Nat.zero_le _, rfl⟩
  · exact weak rfl (by (refine ⟨.eq rfl rfl, ?_⟩; (iterate 3 refine ⟨.eq rfl rfl, ?_⟩); exact trivial)) (by (refine ⟨.box _ rfl ?_, ?_⟩; (iterate 2 refine ⟨.eq rfl rfl, ?_⟩); exact trivial; refine ⟨.box _ rfl ?_, ?_⟩; (iterate 4 refine ⟨.eq rfl rfl, ?_⟩); (iterate 2 exact trivial))) rfl
  rintro k ⟨hk, hno⟩
  by_cases hlt : k < p.length
  · have s1 := hso (k : Int) (by omega)
    have hra := rangeAll (fixX so at' p) k
    have hrn := rangeNot (f := fixX so at' p) hlt
    rw [hno, Bool.true_and] at hra
    have hfx : fixX so at' p k = (!(decide (0 ≤ sortF at' (k : Int) 0) && (decide (sortF at' (k : Int) 0 < (so.length : Int)) && (so.getD (sortF at' (k : Int) 0).toNat (ByteArray.empty, false)).2)) || decide (p.getD k 0 = (k : Int))) := by unfold fixX fxF; rfl
    rw [getD_of hlt] at hfx
    generalize sortF at' (k : Int) 0 = sv at s1 hfx
    by_cases c1 : 0 ≤ sv
    · by_cases c2 : sv < (so.length : Int)
      · rw [decide_eq_true c1, decide_eq_true c2, Bool.true_and, Bool.true_and, getD_of (by omega)] at hfx
        cases c3 : (so[sv.toNat]'(by omega)).2 with
        | true =>
          rw [c3] at hfx
          by_cases c4 : p[k] = (k : Int)
          · rw [decide_eq_true c4] at hfx
            rw [hfx] at hra
            (refine Q336 ?_; (focus ((with_reducible apply AOps.index_mapI); (iterate 7 exact rfl); omega; rotate_left; (first | omega | exact Nat.zero_lt_one | exact (by simp)))); refine Q320 ?_; refine zm ?_; refine Q38 ?_; refine zm ?_; refine Q38 ?_; refine zm ?_; refine Q38 ?_; (focus ((with_reducible apply AOps.index_map); (iterate 7 exact rfl); rotate_left; omega)); refine Q341 ?_; refine Q99 ?_)
            exact Q56
          · rw [decide_eq_false c4] at hfx
            rw [hfb, hrn hfx]
            (refine Q336 ?_; (focus ((with_reducible apply AOps.index_mapI); (iterate 7 exact rfl); omega; rotate_left; (first | omega | exact Nat.zero_lt_one | exact (by simp)))); refine Q320 ?_; refine zm ?_; refine Q38 ?_; refine zm ?_; refine Q38 ?_; refine zm ?_; refine Q38 ?_; (focus ((with_reducible apply AOps.index_map); (iterate 7 exact rfl); rotate_left; omega)); refine Q341 ?_; refine Q83 ?_; refine Q200 ?_)
            (apply ends_ret; (exact Res.one (.tmp rfl rfl)); (refine Le.litB ?_; (rfl)))
        | false =>
          rw [c3] at hfx
          rw [hfx] at hra
          (refine Q336 ?_; (focus ((with_reducible apply AOps.index_mapI); (iterate 7 exact rfl); omega; rotate_left; (first | omega | exact Nat.zero_lt_one | exact (by simp)))); refine Q320 ?_; refine zm ?_; (iterate 6 refine AOps.guard_lf rfl rfl rfl rfl rfl (by assumption) rfl ?_); refine AOps.pickBf rfl rfl (by assumption) rfl rfl rfl rfl ?_; refine Q45 ?_; refine Q29 ?_)
          exact Q56
      · rw [decide_eq_false c2, Bool.false_and, Bool.and_false] at hfx
        rw [hfx] at hra
        (refine Q218 ?_; refine zm ?_; refine Q113 ?_; refine zm ?_; refine Q272 ?_; refine zm ?_; refine Q260 ?_; refine Q45 ?_; refine Q29 ?_)
        exact Q56
    · rw [decide_eq_false c1, Bool.false_and] at hfx
      rw [hfx] at hra
      (refine Q218 ?_; refine zm ?_; refine AOps.geq rfl rfl rfl rfl rfl ?_; refine zm ?_; refine Q205 ?_; refine zm ?_; refine Q260 ?_; refine zm ?_; refine Q260 ?_; refine Q45 ?_; refine Q29 ?_)
      exact Q56
  · obtain rfl : k = p.length := by omega
    rw [hfb, hno]
    (refine Q10 ?_; refine Q189 ?_)
    (apply ends_ret; (exact Res.one (.tmp rfl rfl)); (refine Le.litB ?_; (rfl)))
end Go.Ab
/- Chapter 09: the plain laws. -/
namespace Go.Ab
open Go Go.Proofs
set_option maxRecDepth 20000
set_option maxHeartbeats 4000000
structure Fit (s : SpecM) (at' : List Int) : Prop where
  cols : ∀ f ∈ s.fields, colsB at'.length f.sorts = true
  fs : s.fields.length ≤ 6
  sm : SmA at'
  top : at'.sum ≤ 12
  one : 1 ≤ at'.sum
theorem fit_of {s : SpecM} {at' : List Int} {st : Int} (h : fits9 s at' st = true) : Fit s at' := by
  unfold fits9 sizedB fieldsB at h
  simp only [Bool.and_eq_true, decide_eq_true_eq, List.all_eq_true] at h
  obtain ⟨⟨h1, h2, h3, h4⟩, h5, h6, ⟨h7, h8, h9⟩, h10, h11⟩ := h
  have hsm := sizesOk_sm h10 (by omega)
  refine ⟨fun f hf => by rw [← h6]; exact h5 f hf, h3, hsm, h11, ?_⟩
  have hl : 1 ≤ at'.length := by omega
  clear h5 h6 h4 h7
  match at', hl with
  | x :: r, _ =>
    have e1 := sizesOk_all.1 h10 x (by simp)
    have e2 := sum_nn (l := r) fun y hy => (hsm.2 y (by simp [hy])).1
    simp; omega
theorem selL_sub (q : Nat → Bool) : ∀ (l : List Int) (i : Nat), (selL q i l).Sublist l
  | [], _ => List.Sublist.slnil
  | t :: ts, i => by
    show ((if q i = true then [t] else []) ++ selL q (i + 1) ts).Sublist (t :: ts)
    split
    · exact (selL_sub q ts (i + 1)).cons_cons t
    · exact (selL_sub q ts (i + 1)).cons t
theorem selL_mono {q q' : Nat → Bool} (h : ∀ k, q k = true → q' k = true) : ∀ (l : List Int) (i : Nat), (selL q i l).Sublist (selL q' i l)
  | [], _ => List.Sublist.slnil
  | t :: ts, i => by
    show ((if q i = true then [t] else []) ++ selL q (i + 1) ts).Sublist ((if q' i = true then [t] else []) ++ selL q' (i + 1) ts)
    have ih := selL_mono h ts (i + 1)
    by_cases h1 : q i = true
    · rw [if_pos h1, if_pos (h i h1)]; exact ih.cons_cons t
    · rw [if_neg h1]
      split
      · exact ih.cons t
      · exact ih
theorem full_facts {s : SpecM} {at' : List Int} (hf : Fit s at') {f : FieldM} (h : f ∈ s.fields) : Inc (fullR at' f.sorts).2 ∧ relOk at'.sum (fullR at' f.sorts) = true := by
  have hok := full_ok (hf.cols f h) hf.sm hf.top
  exact ⟨(relOk_iff.1 hok).2.1, hok⟩
structure Good (at' : List Int) (fs : List FieldM) (a : List BndM) : Prop where
  len : a.length = fs.length
  get : ∀ k (h : k < fs.length), Rising (a[k]'(by omega)) ∧ (a[k]'(by omega)).1.1 = fs[k].sorts.length ∧ ∀ t ∈ (a[k]'(by omega)).2.2, t ∈ (fullR at' fs[k].sorts).2
theorem good_made {s : SpecM} {at' : List Int} (hf : Fit s at') (raw : List (List Int)) : Good at' s.fields (madeL at' raw 0 s.fields) := by
  refine ⟨madeL_len _ _ _ _, fun k hk => ?_⟩
  have hfu := (full_facts hf (List.getElem_mem hk)).1
  rw [madeL_at at' raw s.fields 0 k hk]
  refine ⟨⟨hfu.sublist (selL_sub _ _ _), hfu.sublist (selL_sub _ _ _), ?_, rfl⟩, rfl, fun t ht => (selL_sub _ _ _).subset ht⟩
  intro t ht
  refine (selL_mono (fun k h => ?_) _ _).subset ht
  simp only [decide_eq_true_eq] at h ⊢
  omega
theorem good_vB {s : SpecM} {at' : List Int} (hf : Fit s at') {a : List BndM} (h : Good at' s.fields a) {k : Nat} (hk : k < s.fields.length) : vB at' s.fields[k] (a[k]'(by rw [h.len]; exact hk)) = true := by
  obtain ⟨hr, ha, hu⟩ := h.get k hk
  have hfo := relOk_iff.1 (full_facts hf (List.getElem_mem hk)).2
  have har := hr.ar
  unfold vB
  simp only [Bool.and_eq_true, decide_eq_true_eq, subL_iff]
  have hfl : ((fullR at' s.fields[k].sorts).1) = (s.fields[k].sorts.length : Int) := rfl
  have hup : ∀ t ∈ (a[k]'(by rw [h.len]; exact hk)).2.2, 0 ≤ t ∧ t < at'.sum ^ s.fields[k].sorts.length := by
    intro t ht
    have := hfo.2.2 t (hu t ht)
    rw [hfl, Int.toNat_natCast] at this
    exact this
  refine ⟨⟨ha, by omega⟩, relOk_iff.2 ⟨⟨hfo.1.1, hfo.1.2.1, ?_, ?_⟩, hr.low, fun t ht => ?_⟩, relOk_iff.2 ⟨⟨hfo.1.1, hfo.1.2.1, ?_, ?_⟩, hr.high, fun t ht => ?_⟩, hr.sub, hu⟩
  · rw [ha, ← hfl]; exact hfo.1.2.2.1
  · rw [ha, ← hfl]; exact hfo.1.2.2.2
  · rw [ha, Int.toNat_natCast]; exact hup t (hr.sub t ht)
  · rw [har, ha, ← hfl]; exact hfo.1.2.2.1
  · rw [har, ha, ← hfl]; exact hfo.1.2.2.2
  · rw [har, ha, Int.toNat_natCast]; exact hup t ht
theorem good_lens {s : SpecM} {at' : List Int} (hf : Fit s at') {a : List BndM} (h : Good at' s.fields a) : a.length ≤ 6 ∧ ∀ x ∈ a, x.1.2.length ≤ 1728 ∧ x.2.2.length ≤ 1728 ∧ Inc x.1.2 := by
  refine ⟨by rw [h.len]; exact hf.fs, fun x hx => ?_⟩
  obtain ⟨k, hk, rfl⟩ := List.getElem_of_mem hx
  have hk' : k < s.fields.length := by rw [← h.len]; exact hk
  have hv := good_vB hf h hk'
  unfold vB at hv
  simp only [Bool.and_eq_true] at hv
  exact ⟨relOk_len hv.2.1, relOk_len hv.2.2.1, (h.get k hk').1.low⟩
end Go.Ab
/- Chapter 24: the group of symmetries, walked. -/
namespace Go.Ab
open Go Go.Proofs
open Nat (reduceAdd reduceSub)
set_option maxRecDepth 20000
set_option maxHeartbeats 4000000
structure MadeOk (s : SpecM) (at' : List Int) (st n : Nat) (bs : List BndM) : Prop where
  fit : Fit s at'
  ns : (n : Int) = at'.sum
  n1 : 1 ≤ n
  n5 : n ≤ 5
  stb : 1 ≤ st ∧ st ≤ 4
  good : Good at' s.fields bs
  a4 : at'.length ≤ 4
  a5 : ∀ x ∈ at', x ≤ 5
theorem MadeOk.len {s : SpecM} {at' : List Int} {st n : Nat} {bs : List BndM} (h : MadeOk s at' st n bs) : bs.length = s.fields.length := h.good.len
theorem arF_at {fs : List FieldM} {i : Nat} (h : i < fs.length) : arF fs (i : Int) = fs[i].sorts.length := by
  unfold arF
  rw [show ((i : Int)).toNat = i by omega, getD_of h]
theorem MadeOk.full {s : SpecM} {at' : List Int} {st n : Nat} {bs : List BndM} (h : MadeOk s at' st n bs) {i : Nat} (hi : i < s.fields.length) : (1 ≤ s.fields[i].sorts.length ∧ s.fields[i].sorts.length ≤ 3) ∧ ∀ t ∈ (fullR at' s.fields[i].sorts).2, 0 ≤ t ∧ t < ((n ^ s.fields[i].sorts.length : Nat) : Int) := by
  have hf := relOk_iff.1 (full_ok (h.fit.cols _ (List.getElem_mem hi)) h.fit.sm h.fit.top)
  obtain ⟨⟨h1, h2, h3, h4⟩, h5, h6⟩ := hf
  have e : (fullR at' s.fields[i].sorts).1 = (s.fields[i].sorts.length : Int) := rfl
  rw [e] at h3 h4
  refine ⟨by omega, fun t ht => ?_⟩
  have := h6 t ht
  rw [e, ← h.ns, Int.toNat_natCast, ← Int.natCast_pow] at this
  exact this
theorem MadeOk.bnd {s : SpecM} {at' : List Int} {st n : Nat} {bs : List BndM} (h : MadeOk s at' st n bs) : BndOk n (arF s.fields) bs := by
  have key : ∀ (i : Nat) (hi : i < bs.length), RanksOk n (arF s.fields (i : Int)) bs[i].1.2 ∧ RanksOk n (arF s.fields (i : Int)) bs[i].2.2 := fun i hi => by
    have hi' : i < s.fields.length := by rw [← h.len]; exact hi
    obtain ⟨hr, _, hs⟩ := h.good.get i hi'
    have hf := (h.full hi').2
    rw [arF_at hi']
    exact ⟨⟨hr.low, fun t ht => hf t (hs t (hr.sub t ht))⟩, ⟨hr.high, fun t ht => hf t (hs t ht)⟩⟩
  exact ⟨fun i hi => (key i hi).1, fun i hi => (key i hi).2⟩
theorem pow_small {n a : Nat} (h1 : n ≤ 5) (h2 : a ≤ 3) : n ^ a ≤ 125 := by
  have h3 : n ^ a ≤ 5 ^ a := Nat.pow_le_pow_left h1 a
  have h4 : 5 ^ a ≤ 5 ^ 3 := Nat.pow_le_pow_right (by omega) h2
  omega
theorem MadeOk.rk {s : SpecM} {at' : List Int} {st n : Nat} {bs : List BndM} (h : MadeOk s at' st n bs) {i : Nat} (hi : i < bs.length) : (∀ t ∈ bs[i].1.2, 0 ≤ t ∧ t ≤ 125) ∧ ∀ t ∈ bs[i].2.2, 0 ≤ t ∧ t ≤ 125 := by
  have hb := h.bnd
  have hi' : i < s.fields.length := by rw [← h.len]; exact hi
  have hp := pow_small h.n5 (h.full hi').1.2
  have h1 := (hb.low i hi).rng
  have h2 := (hb.high i hi).rng
  rw [arF_at hi'] at h1 h2
  exact ⟨fun t ht => by have := h1 t ht; omega, fun t ht => by have := h2 t ht; omega⟩
theorem MadeOk.lit {s : SpecM} {at' : List Int} {st n : Nat} {bs : List BndM} (h : MadeOk s at' st n bs) {p : List Int} (hp : SymP n (srtF at') (fxF s.sorts at') (arF s.fields) bs p) : LitOk s st bs p := by
  have hln := hp.perm.len
  have hl := good_lens h.fit h.good
  have h1 := h.n1
  have h5 := h.n5
  refine ⟨h.stb, ⟨h.len, by omega⟩, fun x hx => ?_, fun x hx => ?_, fun t ht => ?_, fun f hf => ?_, by omega, ⟨srtF at', by rw [hln]; exact hp.perm⟩, ?_⟩
  · have := hl.2 x hx
    exact ⟨by omega, by omega, this.2.2⟩
  · obtain ⟨i, hi, rfl⟩ := List.getElem_of_mem hx
    exact (h.bnd.high i hi).inc
  · obtain ⟨k, hk, e, hm⟩ := freeL_mem (bs := bs) (i := 0) (p := t) ht
    have := (h.rk hk).2 t.2 (mem_diff.1 hm).1
    omega
  · obtain ⟨i, hi, rfl⟩ := List.getElem_of_mem hf
    exact (h.full hi).1
  · rw [hln]
    exact act_mem hp.perm h.n1 h.bnd hp.keep
def symX (n : Nat) (ar : Int → Nat) (p : List Int) (bs : List BndM) (i : Nat) : Bool := keepL n p (ar (i : Int)) (bs.getD i ((0, []), (0, []))).1.2 && keepL n p (ar (i : Int)) (bs.getD i ((0, []), (0, []))).2.2
def symB (n : Nat) (ar : Int → Nat) (p : List Int) (bs : List BndM) : Bool := (List.range bs.length).all (symX n ar p bs)
theorem sym_iff {n : Nat} {ar : Int → Nat} {p : List Int} {bs : List BndM} : symB n ar p bs = true ↔ keepB n ar p bs := by
  unfold symB keepB
  rw [List.all_eq_true]
  constructor
  · intro h i hi
    have := h i (List.mem_range.2 hi)
    unfold symX at this
    rw [getD_of hi, Bool.and_eq_true] at this
    exact this
  · intro h i hi
    have hi := List.mem_range.1 hi
    unfold symX
    rw [getD_of hi, Bool.and_eq_true]
    exact h i hi
def grpM (s : SpecM) (at' : List Int) (n : Nat) (bs : List BndM) : List (List Int) := (allM n (srtF at') n).filter fun p => fixB s.sorts at' p && symB n (arF s.fields) p bs
theorem grp_mem {s : SpecM} {at' : List Int} {n : Nat} {bs : List BndM} {p : List Int} : p ∈ grpM s at' n bs ↔ SymP n (srtF at') (fxF s.sorts at') (arF s.fields) bs p := by
  unfold grpM
  rw [List.mem_filter, all_perm, Bool.and_eq_true, sym_iff]
  constructor
  · rintro ⟨h1, h2, h3⟩
    refine ⟨h1, fun x hx hf => ?_, h3⟩
    unfold fixB at h2
    rw [List.all_eq_true] at h2
    have := h2 x (List.mem_range.2 (by rw [h1.len]; exact hx))
    unfold fixX at this
    rw [hf] at this
    simpa using this
  · rintro ⟨h1, h2, h3⟩
    refine ⟨h1, ?_, h3⟩
    unfold fixB
    rw [List.all_eq_true]
    intro x hx
    have hx := List.mem_range.1 hx
    rw [h1.len] at hx
    unfold fixX
    cases hf : fxF s.sorts at' (x : Int) with
    | true => have := h2 x hx hf; simpa using this
    | false => rfl
theorem eq_keep (x : RelM) (c : List Int) : decide (x = (x.1, c)) = decide (c = x.2) := by
  obtain ⟨a, b⟩ := x
  rw [decide_eq_decide]
  constructor
  · intro h; exact ((Prod.mk.injEq _ _ _ _).mp h).2.symm
  · rintro rfl; rfl
attribute [local irreducible] AW AOps thenD inBlockD AR iterEnds roundEndsN inlEnds noGotoD imgR canon keepL symX fixB allM
theorem symmetric_fn (s : SpecM) (at' : List Int) (st n : Nat) (bs : List BndM) (p : List Int) (h : MadeOk s at' st n bs) (hp : PermA n (srtF at') p) : Fn Tryz.prog 86 [scp at' (st : Int), .pv (bnds bs), .pv (ints p)] (litB (symB n (arF s.fields) p bs)) := by
  have hpl := hp.len
  have hnn := h.ns
  have h1 := h.n1
  have h5 := h.n5
  have hlen := h.len
  have hls := good_lens h.fit h.good
  have hv := valid11_fn at' (st : Int) p h.fit.sm h.a4 h.a5 h.fit.top (by rw [hpl]; exact hp) (by rw [hpl]; exact h.ns)
  have hsb : symB n (arF s.fields) p bs = (List.range bs.length).all (symX n (arF s.fields) p bs) := rfl
  rw [hsb]
  refine Fn.enter (n := 50) Tryz.func86 rfl rfl rfl rfl rfl (by decide) fun g hro_ hwt_ => ?_; (try refine nz ?_)
  (refine Q64 ?_; refine Q61 ?_; refine Q202 ?_; refine zA (hv) ?_; refine Q267 ?_; refine thenD_n ?_; refine Q30 ?_; refine Q75 ?_)
  (refine nz ?_; apply AW.loopR [3, 1, 2] [0] (fun k : Nat => ([(7, litI k)] : List (Nat × AV))) (fun k : Nat => ([] : List (Nat × Option Ob))) (fun k : Nat => k ≤ bs.length ∧ (List.range k).all (symX n (arF s.fields) p bs) = true) (fun k : Nat => bs.length - k) (0); (conv => lhs; simp only [Nf.lpR, Nf.all, Nat.reduceBEq, reduceAdd, reduceSub]); (all_goals skip))
  · exact ⟨Nat.zero_le _, rfl⟩
  · exact Q103
  rintro k ⟨hk, hno⟩
  by_cases hlt : k < bs.length
  · have hlt' : k < s.fields.length := by omega
    have hra := rangeAll (symX n (arF s.fields) p bs) k
    have hrn := rangeNot (f := symX n (arF s.fields) p bs) hlt
    rw [hno, Bool.true_and] at hra
    have hfx : symX n (arF s.fields) p bs k = (keepL n p (arF s.fields (k : Int)) (bs.getD k ((0, []), (0, []))).1.2 && keepL n p (arF s.fields (k : Int)) (bs.getD k ((0, []), (0, []))).2.2) := by unfold symX; rfl
    rw [getD_of hlt, arF_at hlt'] at hfx
    obtain ⟨g1, g2, _⟩ := h.good.get k hlt'
    have g3 := g1.ar
    have hfu := (h.full hlt').1
    obtain ⟨t1, t2⟩ := h.rk hlt
    have hl2 := hls.2 _ (List.getElem_mem hlt)
    have r1 := rel11_fn at' (st : Int) p s.fields[k].sorts.length bs[k].1.2 (by rw [hpl]; exact hp) (by omega) (by omega) hfu.2 (fun t ht => by have := t1 t ht; omega) (by omega)
    have r2 := rel11_fn at' (st : Int) p s.fields[k].sorts.length bs[k].2.2 (by rw [hpl]; exact hp) (by omega) (by omega) hfu.2 (fun t ht => by have := t2 t ht; omega) (by omega)
    rw [← g2] at r1
    rw [← g2, ← g3] at r2
    rw [hpl] at r1 r2
    have q1 := rEqual_fn bs[k].1 (bs[k].1.1, canon (bs[k].1.2.map (imgR n p s.fields[k].sorts.length)))
    have q2 := rEqual_fn bs[k].2 (bs[k].2.1, canon (bs[k].2.2.map (imgR n p s.fields[k].sorts.length)))
    rw [eq_keep] at q1 q2
    have k1 : keepL n p s.fields[k].sorts.length bs[k].1.2 = decide (canon (bs[k].1.2.map (imgR n p s.fields[k].sorts.length)) = bs[k].1.2) := by unfold keepL; rfl
    have k2 : keepL n p s.fields[k].sorts.length bs[k].2.2 = decide (canon (bs[k].2.2.map (imgR n p s.fields[k].sorts.length)) = bs[k].2.2) := by unfold keepL; rfl
    rw [← k1] at q1
    rw [← k2] at q2
    generalize canon (bs[k].1.2.map _) = c1 at r1 q1
    generalize canon (bs[k].2.2.map _) = c2 at r2 q2
    cases e1 : keepL n p s.fields[k].sorts.length bs[k].1.2 with
    | true =>
      cases e2 : keepL n p s.fields[k].sorts.length bs[k].2.2 with
      | true =>
        rw [e1, e2] at hfx
        rw [e1] at q1
        rw [e2] at q2
        rw [hfx] at hra
        (refine Q212 ?_; show AOps .held _ _ _ [_, _, _, _, _, _, _, _, _, _, _, _] _ _; (iterate 2 refine zm ?_); (focus ((with_reducible apply AOps.index_map); (iterate 7 exact rfl); rotate_left; omega)); refine Q227 ?_; refine Q74 ?_; refine Q41 ?_; (iterate 3 refine zm ?_); (focus ((with_reducible apply AOps.index_map); (iterate 7 exact rfl); rotate_left; omega)); refine Q227 ?_; refine Q74 ?_; refine Q7 ?_; intro k_ hk_; refine AR.step1M (i := 12) rfl (by kernel_rfl) rfl ?_; intro g_ hgro_ hw_; refine zP (r1) ?_; refine Q245 ?_; intro g_ hgro_ hw_; refine Q175 ?_; intro g_ hgro_; show AOps .held _ _ _ [_, _, _, _, _, _, _, _, _, _, _, _, _, _] _ _; refine AOps.not rfl rfl rfl ?_; refine zm ?_; refine Q92 ?_; refine zm ?_; refine zl ?_; (focus ((with_reducible apply AOps.index_map); (iterate 7 exact rfl); rotate_left; omega)); refine Q263 ?_; refine Q340 ?_; (focus ((with_reducible apply AOps.index_map); (iterate 7 exact rfl); rotate_left; omega)); refine Q263 ?_; refine Q7 ?_; intro k_ hk_; refine AR.step1M (i := 28) rfl (by kernel_rfl) rfl ?_; intro g_ hgro_ hw_; refine zl ?_; refine zP (r2) ?_; refine Q7 ?_; refine AR.step1M (i := 29) rfl (by kernel_rfl) rfl ?_; intro g_ hgro_ hw_; refine zl ?_; refine zA (q2) ?_; refine Q280 ?_; intro g_ hgro_; show AOps .held _ _ _ [_, _] _ _; refine Q322 ?_; refine Q7 ?_; intro k_ hk_; refine nz ?_; refine Q33 ?_; refine AW.cond_lf rfl rfl ?_; refine AW.skip ?_; refine Q11 ?_; refine zm ?_; refine zj ?_; refine Q5 ?_)
        exact ⟨k + 1, ⟨by omega, hra⟩, by omega, weak rfl (by (refine ⟨.eq rfl rfl, ?_⟩; (iterate 3 refine ⟨.eq rfl rfl, ?_⟩); exact trivial)) (by (refine ⟨.box _ rfl ?_, ?_⟩; (iterate 2 refine ⟨.eq rfl rfl, ?_⟩); (iterate 2 exact trivial))) rfl⟩
      | false =>
        rw [e1, e2] at hfx
        rw [e1] at q1
        rw [e2] at q2
        rw [hrn hfx]
        (refine Q212 ?_; show AOps .held _ _ _ [_, _, _, _, _, _, _, _, _, _, _, _] _ _; (iterate 2 refine zm ?_); (focus ((with_reducible apply AOps.index_map); (iterate 7 exact rfl); rotate_left; omega)); refine Q227 ?_; refine Q74 ?_; refine Q41 ?_; (iterate 3 refine zm ?_); (focus ((with_reducible apply AOps.index_map); (iterate 7 exact rfl); rotate_left; omega)); refine Q227 ?_; refine Q74 ?_; refine Q7 ?_; intro k_ hk_; refine AR.step1M (i := 12) rfl (by kernel_rfl) rfl ?_; intro g_ hgro_ hw_; refine zP (r1) ?_; refine Q245 ?_; intro g_ hgro_ hw_; refine Q175 ?_; intro g_ hgro_; show AOps .held _ _ _ [_, _, _, _, _, _, _, _, _, _, _, _, _, _] _ _; refine AOps.not rfl rfl rfl ?_; refine zm ?_; refine Q92 ?_; refine zm ?_; refine zl ?_; (focus ((with_reducible apply AOps.index_map); (iterate 7 exact rfl); rotate_left; omega)); refine Q263 ?_; refine Q340 ?_; (focus ((with_reducible apply AOps.index_map); (iterate 7 exact rfl); rotate_left; omega)); refine Q263 ?_; refine Q7 ?_; intro k_ hk_; refine AR.step1M (i := 28) rfl (by kernel_rfl) rfl ?_; intro g_ hgro_ hw_; refine zl ?_; refine zP (r2) ?_; refine Q7 ?_; refine AR.step1M (i := 29) rfl (by kernel_rfl) rfl ?_; intro g_ hgro_ hw_; refine zl ?_; refine zA (q2) ?_; refine Q280 ?_; intro g_ hgro_; show AOps .held _ _ _ [_, _] _ _; refine Q322 ?_; refine Q7 ?_; intro k_ hk_; refine nz ?_; refine Q33 ?_; refine AW.cond_lt rfl rfl ?_; refine zq ?_; refine Q200 ?_)
        (apply ends_ret; (exact Res.one (.tmp rfl rfl)); (refine Le.litB ?_; (rfl)))
    | false =>
      rw [e1, Bool.false_and] at hfx
      rw [e1] at q1
      rw [hrn hfx]
      (refine Q212 ?_; show AOps .held _ _ _ [_, _, _, _, _, _, _, _, _, _, _, _] _ _; (iterate 2 refine zm ?_); (focus ((with_reducible apply AOps.index_map); (iterate 7 exact rfl); rotate_left; omega)); refine Q227 ?_; refine Q74 ?_; refine Q41 ?_; (iterate 3 refine zm ?_); (focus ((with_reducible apply AOps.index_map); (iterate 7 exact rfl); rotate_left; omega)); refine Q227 ?_; refine Q74 ?_; refine Q7 ?_; intro k_ hk_; refine AR.step1M (i := 12) rfl (by kernel_rfl) rfl ?_; intro g_ hgro_ hw_; refine zP (r1) ?_; refine Q245 ?_; intro g_ hgro_ hw_; refine Q175 ?_; intro g_ hgro_; show AOps .held _ _ _ [_, _, _, _, _, _, _, _, _, _, _, _, _, _] _ _; refine AOps.not rfl rfl rfl ?_; refine zm ?_; (iterate 12 refine AOps.guard_lf rfl rfl rfl rfl rfl rfl rfl ?_); refine Q7 ?_; intro k_ hk_; refine nz ?_; refine AR.step1M (i := 28) rfl (by kernel_rfl) rfl ?_; intro g_ hgro_ hw_; refine AOps.guard_lf rfl rfl rfl rfl rfl rfl rfl ?_; refine Q7 ?_; refine AR.step1M (i := 29) rfl (by kernel_rfl) rfl ?_; intro g_ hgro_ hw_; refine AOps.guard_lf rfl rfl rfl rfl rfl rfl rfl ?_; refine Q280 ?_; intro g_ hgro_; show AOps .held _ _ _ [_, _] _ _; refine AOps.guard_lf rfl rfl rfl rfl rfl rfl rfl ?_; refine AOps.pick_lt rfl rfl rfl rfl rfl rfl ?_; refine Q7 ?_; intro k_ hk_; refine nz ?_; refine Q33 ?_; refine AW.cond_lt rfl rfl ?_; refine zq ?_; refine Q200 ?_)
      (apply ends_ret; (exact Res.one (.tmp rfl rfl)); (refine Le.litB ?_; (rfl)))
  · obtain rfl : k = bs.length := by omega
    rw [hno]
    (refine Q10 ?_; refine Q189 ?_)
    (apply ends_ret; (exact Res.one (.tmp rfl rfl)); (refine Le.litB ?_; (rfl)))
attribute [local irreducible] symB grpM
theorem group_fn (s : SpecM) (at' : List Int) (st n : Nat) (bs : List BndM) (h : MadeOk s at' st n bs) : Fn Tryz.prog 42 [spc s, scp at' (st : Int), .pv (bnds bs)] (.pv (intss (grpM s at' n bs))) := by
  have ha := all11_fn at' (st : Int) n h.fit.sm h.ns h.n5
  have hal := allM_small h.n5 (srtF at') (Nat.le_refl n)
  have hfx := fun p (hp : p ∈ allM n (srtF at') n) => fixes_fn s at' (st : Int) p h.fit.sm (by have := (all_perm.1 hp).len; have := h.n5; omega)
  have hsy := fun p (hp : p ∈ allM n (srtF at') n) => symmetric_fn s at' st n bs p h (all_perm.1 hp)
  have hg : grpM s at' n bs = (allM n (srtF at') n).filter fun p => fixB s.sorts at' p && symB n (arF s.fields) p bs := by unfold grpM; rfl
  rw [hg]
  generalize allM n (srtF at') n = l at ha hal hfx hsy ⊢
  obtain ⟨so, fs, pr, fa⟩ := s
  simp only at *
  refine Fn.enter (n := 43) Tryz.func42 rfl rfl rfl rfl rfl (by decide) fun g hro_ hwt_ => ?_; (try refine nz ?_)
  (refine Q105 ?_; refine Q51 ?_; refine Q215 ?_; refine Q31 ?_; refine Q4 ?_; refine Q41 ?_; refine zP (ha) ?_; refine Q135 ?_)
  (refine nz ?_; apply AW.loopR [8, 6, 4, 3, 2] [1, 0] (fun k : Nat => ([(9, litI k), (7, .own 2 28 1 (((l.take k).filter fun p => fixB so at' p && symB n (arF fs) p bs).map encLL))] : List (Nat × AV))) (fun k : Nat => ([(2, some .row)] : List (Nat × Option Ob))) (fun k : Nat => k ≤ l.length) (fun k : Nat => l.length - k) (0); (conv => lhs; simp only [Nf.lpR, Nf.all, Nat.reduceBEq, reduceAdd, reduceSub]); (all_goals skip))
  · exact Nat.zero_le _
  · exact weak rfl (by (refine ⟨.eq rfl rfl, ?_⟩; (iterate 6 refine ⟨.eq rfl rfl, ?_⟩); exact trivial)) (by (refine ⟨.row rfl, ?_⟩; refine ⟨.box _ rfl ?_, ?_⟩; (iterate 2 refine ⟨.eq rfl rfl, ?_⟩); exact trivial; refine ⟨.box _ rfl ?_, ?_⟩; (iterate 4 refine ⟨.eq rfl rfl, ?_⟩); (iterate 2 exact trivial))) rfl
  rintro k hk
  have hfl : ((l.take k).filter fun p => fixB so at' p && symB n (arF fs) p bs).length ≤ l.length := Nat.le_trans (List.length_filter_le _ _) (Nat.le_trans (List.length_take_le k l) hk)
  by_cases hlt : k < l.length
  · have f1 := hfx _ (List.getElem_mem hlt)
    have f2 := hsy _ (List.getElem_mem hlt)
    have hs : (l.take (k + 1)).filter (fun p => fixB so at' p && symB n (arF fs) p bs) = (l.take k).filter (fun p => fixB so at' p && symB n (arF fs) p bs) ++ if (fixB so at' l[k] && symB n (arF fs) l[k] bs) = true then [l[k]] else [] := by
      rw [take_succ_get hlt, List.filter_append, List.filter_cons]; rfl
    cases e1 : fixB so at' l[k] with
    | true =>
      rw [e1] at f1 hs
      cases e2 : symB n (arF fs) l[k] bs with
      | true =>
        rw [e2] at f2 hs
        rw [if_pos (by decide)] at hs
        (refine Q89 ?_; (with_reducible apply AW.regionQ); exact rfl; exact rfl; kernel_rfl; (with_reducible assumption); refine Q41 ?_; refine Q80 ?_; (focus ((with_reducible apply AOps.index_map); (iterate 7 exact rfl); rotate_left; omega)); refine zr ?_; refine zA (f1) ?_; refine zm ?_; refine Q340 ?_; (focus ((with_reducible apply AOps.index_map); (iterate 7 exact rfl); rotate_left; omega)); refine zl ?_; refine zr ?_; refine zl ?_; refine zA (f2) ?_; refine AOps.pick_lt rfl rfl rfl rfl rfl rfl ?_; refine Q251 ?_; refine Q85 ?_; (iterate 2 refine zm ?_); (focus ((with_reducible apply AOps.index_map); (iterate 7 exact rfl); rotate_left; omega)); refine zr ?_; refine Q50 ?_; (with_reducible apply AOps.appendS); exact rfl; (first | exact .pv rfl | exact .own rfl | exact .nil rfl); (iterate 9 exact rfl); (first | omega | (simp only [List.length_map, List.length_append, List.length_cons, List.length_nil, List.length_drop, List.length_take, List.length_set, chunk_len]; omega)); refine Q300 ?_)
        exact Q26
      | false =>
        rw [e2] at f2 hs
        rw [if_neg (by decide), List.append_nil] at hs
        (refine Q89 ?_; (with_reducible apply AW.regionQ); exact rfl; exact rfl; kernel_rfl; (with_reducible assumption); refine Q41 ?_; refine Q80 ?_; (focus ((with_reducible apply AOps.index_map); (iterate 7 exact rfl); rotate_left; omega)); refine zr ?_; refine zA (f1) ?_; refine zm ?_; refine Q340 ?_; (focus ((with_reducible apply AOps.index_map); (iterate 7 exact rfl); rotate_left; omega)); refine zl ?_; refine zr ?_; refine zl ?_; refine zA (f2) ?_; refine AOps.pick_lt rfl rfl rfl rfl rfl rfl ?_; refine Q45 ?_; refine Q29 ?_)
        exact Q68
    | false =>
      rw [e1] at f1 hs
      rw [Bool.false_and, if_neg (by decide), List.append_nil] at hs
      (refine Q89 ?_; (with_reducible apply AW.regionQ); exact rfl; exact rfl; kernel_rfl; (with_reducible assumption); refine Q41 ?_; refine Q80 ?_; (focus ((with_reducible apply AOps.index_map); (iterate 7 exact rfl); rotate_left; omega)); refine zr ?_; refine zA (f1) ?_; refine zm ?_; (iterate 7 refine AOps.guard_lf rfl rfl rfl rfl rfl rfl rfl ?_); refine AOps.pick_lf rfl rfl rfl rfl rfl rfl ?_; refine Q45 ?_; refine Q29 ?_)
      exact Q68
  · rw [take_all (l := l) (by omega)]
    (refine Q10 ?_; refine Q44 ?_; refine Q96 ?_)
    (apply ends_ret; (exact Res.one (.tmp rfl rfl)); (exact Le.own _ _ _ _ rfl))
end Go.Ab
/- Chapter 24: the laws' bounds and symmetries, walked. -/
namespace Go.Ab
open Go Go.Proofs
open Nat (reduceAdd reduceSub)
set_option maxRecDepth 20000
set_option maxHeartbeats 8000000
abbrev litU16 (n : Int) : AV := .pv (.lit (.int .u16 n))
abbrev nilS : AV := .pv (.lit (.slice none 0 0))
abbrev caseA (s : SpecM) (at' : List Int) (st : Int) (raw : List (List Int)) (P Q : Int) : AV := .agg [.pv (.slice 2 (s.sorts.map encSo)), .pv (.slice 3 (s.fields.map encF)), slv s.preds, slv s.facts, .pv (ints at'), litI st, .pv (raws raw), litU16 P, litU16 Q]
theorem fits_more {s : SpecM} {at' : List Int} {st : Int} (h : fits9 s at' st = true) : at'.length ≤ 4 ∧ 1 ≤ st ∧ st ≤ 4 := by
  unfold fits9 sizedB fieldsB at h
  simp only [Bool.and_eq_true, decide_eq_true_eq, List.all_eq_true] at h
  obtain ⟨⟨h1, h2, h3, h4⟩, h5, h6, ⟨h7, h8, h9⟩, h10, h11⟩ := h
  exact ⟨h4, h8, h9⟩
theorem MadeOk.var {s : SpecM} {at' : List Int} {st n : Nat} {bs : List BndM} (h : MadeOk s at' st n bs) : VarOk s st bs := by
  have hl := good_lens h.fit h.good
  exact ⟨h.stb, ⟨h.len, by omega⟩, fun x hx => by have := hl.2 x hx; omega⟩
theorem grp_ne {s : SpecM} {at' : List Int} {st n : Nat} {bs : List BndM} (h : MadeOk s at' st n bs) : 0 < (grpM s at' n bs).length := by
  have : idA n ∈ grpM s at' n bs := grp_mem.2 (.id h.n1 h.bnd)
  exact List.length_pos_of_mem this
theorem grp_len {s : SpecM} {at' : List Int} {st n : Nat} {bs : List BndM} (h : MadeOk s at' st n bs) : (grpM s at' n bs).length ≤ 3125 := by
  unfold grpM
  exact Nat.le_trans (List.length_filter_le _ _) (allM_small h.n5 _ (Nat.le_refl n))
structure Made24 (s : SpecM) (at' : List Int) (st : Int) (raw : List (List Int)) (P Q : Int) (n m : Nat) (bs : List BndM) (p q : List Int) : Prop where
  stm : st = (m : Int)
  ok : MadeOk s at' m n bs
  mp : p ∈ grpM s at' n bs
  mq : q ∈ grpM s at' n bs
  few : (varsM 1 m (freeL 0 bs) (vrF s.fields)).length ≤ 30
  fn : Fn Tryz.prog 14 [caseA s at' st raw P Q] (.tup [.pv (bnds bs), .pv (intss (grpM s at' n bs)), .pv (ints p), .pv (ints q), litB true])
attribute [local irreducible] AW AOps thenD inBlockD AR iterEnds roundEndsN inlEnds noGotoD grpM varsM freeL madeL fits9
theorem sum_le5 {l : List Int} (h : ∀ x ∈ l, 0 ≤ x ∧ x ≤ 5) : 0 ≤ l.sum ∧ l.sum ≤ 5 * l.length := by
  induction l with
  | nil => simp
  | cons x l ih =>
    have h1 := h x (by simp)
    have h2 := ih fun y hy => h y (by simp [hy])
    simp only [List.sum_cons, List.length_cons]
    omega
theorem made24_fn (s : SpecM) (at' : List Int) (st : Int) (raw : List (List Int)) (P Q : Int) (hraw : ∀ r ∈ raw, ∀ x ∈ r, 0 ≤ x ∧ x ≤ 255) (hP : 0 ≤ P ∧ P ≤ 65535) (hQ : 0 ≤ Q ∧ Q ≤ 65535) :
    Fn Tryz.prog 14 [caseA s at' st raw P Q] (.tup [nilS, nilS, nilS, nilS, litB false]) ∨ ∃ (n m : Nat) (bs : List BndM) (p q : List Int), Made24 s at' st raw P Q n m bs p q := by
  have hfi := fits9_fn s at' st
  by_cases h5 : at'.length ≤ 4 ∧ (∀ x ∈ at', 0 ≤ x ∧ x ≤ 5) ∧ at'.sum ≤ 5 ∧ fits9 s at' st = true
  · obtain ⟨h4, hx, hs5, hft⟩ := h5
    have hf := fit_of hft
    obtain ⟨_, hst1, hst4⟩ := fits_more hft
    obtain ⟨m, rfl⟩ : ∃ m : Nat, st = (m : Int) := ⟨st.toNat, by omega⟩
    obtain ⟨n, hn⟩ : ∃ n : Nat, (n : Int) = at'.sum := ⟨at'.sum.toNat, by have := hf.one; omega⟩
    have hmf := made_fn s at' (m : Int) raw hraw hf.cols (by have := hf.fs; omega) hf.sm hf.top hf.one
    have hgd := good_made hf raw
    generalize madeL at' raw 0 s.fields = bs at hmf hgd
    have hok : MadeOk s at' m n bs := ⟨hf, hn, by have := hf.one; omega, by omega, by omega, hgd, h4, fun x h => (hx x h).2⟩
    have hgf := group_fn s at' m n bs hok
    have hvf := vars24_fn s at' m bs hok.var
    have hgn := grp_ne hok
    have hgl := grp_len hok
    rw [hft] at hfi
    have hvr : (fun f => (s.fields.getD f.toNat ⟨ByteArray.empty, [], false⟩).var) = vrF s.fields := rfl
    rw [hvr] at hvf
    by_cases h30 : 30 < ((varsM 1 m (freeL 0 bs) (vrF s.fields)).length : Int)
    · left
      generalize grpM s at' n bs = l at hgf hgn hgl
      generalize varsM 1 m (freeL 0 bs) (vrF s.fields) = vl at hvf h30
      obtain ⟨so, fs, pr, fa⟩ := s
      refine Fn.enter (n := 103) Tryz.func14 rfl rfl rfl rfl rfl (by decide) fun g hro_ hwt_ => ?_; (try refine nz ?_)
      (refine Q64 ?_; (iterate 5 refine za ?_); refine zd ?_; refine Q4 ?_; refine Q135 ?_)
      (refine nz ?_; apply AW.loopR [1] [0] (fun k : Nat => ([(8, litI k), (7, litI (at'.take k).sum)] : List (Nat × AV))) (fun k : Nat => ([] : List (Nat × Option Ob))) (fun k : Nat => k ≤ at'.length) (fun k : Nat => at'.length - k) (0); (conv => lhs; simp only [Nf.lpR, Nf.all, Nat.reduceBEq, reduceAdd, reduceSub]); (all_goals skip))
      · exact Nat.zero_le _
      · exact Q141
      rintro k hk
      have hxt : ∀ x ∈ at'.take k, 0 ≤ x ∧ x ≤ 5 := fun x h => hx x (List.mem_of_mem_take h)
      have hsb := sum_le5 hxt
      have htl := List.length_take_le k at'
      by_cases hlt : k < at'.length
      · have hxk := hx _ (List.getElem_mem hlt)
        have hs := sum_snoc at' hlt
        (refine Q166 ?_; (focus ((with_reducible apply AOps.index_map); (iterate 7 exact rfl); rotate_left; omega)); refine zr ?_; refine zj ?_; refine Q51 ?_; refine Q71 ?_; refine zm ?_; (focus ((with_reducible apply AOps.index_map); (iterate 7 exact rfl); rotate_left; omega)); refine Q331 ?_; (focus ((with_reducible apply AOps.index_map); (iterate 7 exact rfl); rotate_left; omega)); refine Q314 ?_; refine Q99 ?_)
        exact Q69
      · have e : at'.take k = at' := List.take_of_length_le (by omega)
        rw [e]
        (refine Q98 ?_; refine Q71 ?_; refine Q86 ?_; refine Q63 ?_; refine Q274 ?_; refine Q173 ?_; (with_reducible apply AOps.load_bs); (iterate 3 exact rfl); (repeat' first | exact Sub.nil | apply Sub.take | apply Sub.skip); (iterate 3 exact rfl); refine Q111 ?_; (with_reducible apply AOps.load_bs); (iterate 3 exact rfl); (repeat' first | exact Sub.nil | apply Sub.take | apply Sub.skip); (iterate 3 exact rfl); refine Q221 ?_; refine Q45 ?_; refine Q157 ?_; refine AOps.fieldAddrN 35 0 0 rfl rfl rfl rfl ?_; (with_reducible apply AOps.load_bs); (iterate 3 exact rfl); (repeat' first | exact Sub.nil | apply Sub.take | apply Sub.skip); (iterate 3 exact rfl); refine AOps.fieldAddrN 35 1 4 rfl rfl rfl rfl ?_; (with_reducible apply AOps.load_bs); (iterate 3 exact rfl); (repeat' first | exact Sub.nil | apply Sub.take | apply Sub.skip); (iterate 3 exact rfl); refine AOps.fieldAddrN 35 2 6 rfl rfl rfl rfl ?_; refine zb ?_; refine zP (hmf) ?_; refine Q51 ?_; refine AOps.fieldAddrN 35 0 0 rfl rfl rfl rfl ?_; (with_reducible apply AOps.load_bs); (iterate 3 exact rfl); (repeat' first | exact Sub.nil | apply Sub.take | apply Sub.skip); (iterate 3 exact rfl); refine AOps.fieldAddrN 35 1 4 rfl rfl rfl rfl ?_; (with_reducible apply AOps.load_bs); (iterate 3 exact rfl); (repeat' first | exact Sub.nil | apply Sub.take | apply Sub.skip); (iterate 3 exact rfl); refine zm ?_; refine zP (hgf) ?_; refine Q214 ?_; refine zn ?_; refine AOps.eql rfl rfl rfl rfl rfl ?_; refine Q173 ?_; (with_reducible apply AOps.load_bs); (iterate 3 exact rfl); (repeat' first | exact Sub.nil | apply Sub.take | apply Sub.skip); (iterate 3 exact rfl); refine Q111 ?_; (with_reducible apply AOps.load_bs); (iterate 3 exact rfl); (repeat' first | exact Sub.nil | apply Sub.take | apply Sub.skip); (iterate 3 exact rfl); refine zy ?_; refine Q131 ?_; refine zP (hvf) ?_; refine zy ?_; refine zn ?_; refine Q36 ?_; refine Q83 ?_; refine Q275 ?_; refine thenD_ret ?_)
        all_goals (apply ends_ret; (exact Res.five (.tmp rfl rfl) (.tmp rfl rfl) (.tmp rfl rfl) (.tmp rfl rfl) (.tmp rfl rfl)); (refine Le.tupL ?_; (iterate 2 refine Q78 ?_); refine LeL.cons ?_ ?_; refine Le.litB ?_; (rfl); exact LeL.nil))
    · right
      obtain ⟨p, hp, q, hq, hfn⟩ : ∃ p ∈ grpM s at' n bs, ∃ q ∈ grpM s at' n bs, Fn Tryz.prog 14 [caseA s at' (m : Int) raw P Q] (.tup [.pv (bnds bs), .pv (intss (grpM s at' n bs)), .pv (ints p), .pv (ints q), litB true]) := by
        generalize grpM s at' n bs = l at hgf hgn hgl ⊢
        have hp0 : 0 ≤ P % (l.length : Int) := Int.emod_nonneg _ (by omega)
        have hp1 : P % (l.length : Int) < (l.length : Int) := Int.emod_lt_of_pos _ (by omega)
        have hq0 : 0 ≤ Q % (l.length : Int) := Int.emod_nonneg _ (by omega)
        have hq1 : Q % (l.length : Int) < (l.length : Int) := Int.emod_lt_of_pos _ (by omega)
        refine ⟨l[(P % (l.length : Int)).toNat]'(by omega), List.getElem_mem _, l[(Q % (l.length : Int)).toNat]'(by omega), List.getElem_mem _, ?_⟩
        generalize varsM 1 m (freeL 0 bs) (vrF s.fields) = vl at hvf h30
        obtain ⟨so, fs, pr, fa⟩ := s
        refine Fn.enter (n := 103) Tryz.func14 rfl rfl rfl rfl rfl (by decide) fun g hro_ hwt_ => ?_; (try refine nz ?_)
        (refine Q64 ?_; (iterate 5 refine za ?_); refine zd ?_; refine Q4 ?_; refine Q135 ?_)
        (refine nz ?_; apply AW.loopR [1] [0] (fun k : Nat => ([(8, litI k), (7, litI (at'.take k).sum)] : List (Nat × AV))) (fun k : Nat => ([] : List (Nat × Option Ob))) (fun k : Nat => k ≤ at'.length) (fun k : Nat => at'.length - k) (0); (conv => lhs; simp only [Nf.lpR, Nf.all, Nat.reduceBEq, reduceAdd, reduceSub]); (all_goals skip))
        · exact Nat.zero_le _
        · exact Q141
        rintro k hk
        have hxt : ∀ x ∈ at'.take k, 0 ≤ x ∧ x ≤ 5 := fun x h => hx x (List.mem_of_mem_take h)
        have hsb := sum_le5 hxt
        have htl := List.length_take_le k at'
        by_cases hlt : k < at'.length
        · have hxk := hx _ (List.getElem_mem hlt)
          have hs := sum_snoc at' hlt
          (refine Q166 ?_; (focus ((with_reducible apply AOps.index_map); (iterate 7 exact rfl); rotate_left; omega)); refine zr ?_; refine zj ?_; refine Q51 ?_; refine Q71 ?_; refine zm ?_; (focus ((with_reducible apply AOps.index_map); (iterate 7 exact rfl); rotate_left; omega)); refine Q331 ?_; (focus ((with_reducible apply AOps.index_map); (iterate 7 exact rfl); rotate_left; omega)); refine Q314 ?_; refine Q99 ?_)
          exact Q69
        · have e : at'.take k = at' := List.take_of_length_le (by omega)
          rw [e]
          (refine Q98 ?_; refine Q71 ?_; refine Q86 ?_; refine Q63 ?_; refine Q274 ?_; refine Q173 ?_; (with_reducible apply AOps.load_bs); (iterate 3 exact rfl); (repeat' first | exact Sub.nil | apply Sub.take | apply Sub.skip); (iterate 3 exact rfl); refine Q111 ?_; (with_reducible apply AOps.load_bs); (iterate 3 exact rfl); (repeat' first | exact Sub.nil | apply Sub.take | apply Sub.skip); (iterate 3 exact rfl); refine Q221 ?_; refine Q45 ?_; refine Q157 ?_; refine AOps.fieldAddrN 35 0 0 rfl rfl rfl rfl ?_; (with_reducible apply AOps.load_bs); (iterate 3 exact rfl); (repeat' first | exact Sub.nil | apply Sub.take | apply Sub.skip); (iterate 3 exact rfl); refine AOps.fieldAddrN 35 1 4 rfl rfl rfl rfl ?_; (with_reducible apply AOps.load_bs); (iterate 3 exact rfl); (repeat' first | exact Sub.nil | apply Sub.take | apply Sub.skip); (iterate 3 exact rfl); refine AOps.fieldAddrN 35 2 6 rfl rfl rfl rfl ?_; refine zb ?_; refine zP (hmf) ?_; refine Q51 ?_; refine AOps.fieldAddrN 35 0 0 rfl rfl rfl rfl ?_; (with_reducible apply AOps.load_bs); (iterate 3 exact rfl); (repeat' first | exact Sub.nil | apply Sub.take | apply Sub.skip); (iterate 3 exact rfl); refine AOps.fieldAddrN 35 1 4 rfl rfl rfl rfl ?_; (with_reducible apply AOps.load_bs); (iterate 3 exact rfl); (repeat' first | exact Sub.nil | apply Sub.take | apply Sub.skip); (iterate 3 exact rfl); refine zm ?_; refine zP (hgf) ?_; refine Q214 ?_; refine zn ?_; refine AOps.eql rfl rfl rfl rfl rfl ?_; refine Q173 ?_; (with_reducible apply AOps.load_bs); (iterate 3 exact rfl); (repeat' first | exact Sub.nil | apply Sub.take | apply Sub.skip); (iterate 3 exact rfl); refine Q111 ?_; (with_reducible apply AOps.load_bs); (iterate 3 exact rfl); (repeat' first | exact Sub.nil | apply Sub.take | apply Sub.skip); (iterate 3 exact rfl); refine zy ?_; refine Q131 ?_; refine zP (hvf) ?_; refine zy ?_; refine zn ?_; refine Q36 ?_; refine Q154 ?_; refine zo ?_; (with_reducible apply AW.regionQ); exact rfl; exact rfl; kernel_rfl; (with_reducible assumption); (iterate 3 refine zm ?_); refine AOps.fieldAddrN 35 3 7 rfl rfl rfl rfl ?_; refine zb ?_; refine Q323 ?_; (focus ((with_reducible apply AOps.index_mapI); (iterate 7 exact rfl); omega; rotate_left; (first | omega | exact Nat.zero_lt_one | exact (by simp)))); refine zr ?_; refine zm ?_; refine AOps.fieldAddrN 35 4 8 rfl rfl rfl rfl ?_; refine zb ?_; refine Q323 ?_; (focus ((with_reducible apply AOps.index_mapI); (iterate 7 exact rfl); omega; rotate_left; (first | omega | exact Nat.zero_lt_one | exact (by simp)))); refine zr ?_; refine Q275 ?_)
          all_goals (apply ends_ret; (exact Res.five (.tmp rfl rfl) (.tmp rfl rfl) (.tmp rfl rfl) (.tmp rfl rfl) (.tmp rfl rfl)); (refine Le.tupL ?_; refine LeL.cons ?_ ?_; refine Le.pvE ?_; (rfl); refine LeL.cons ?_ ?_; refine Le.pvE ?_; (rfl); refine LeL.cons ?_ ?_; refine Le.pvE ?_; (rfl); refine LeL.cons ?_ ?_; refine Le.pvE ?_; (rfl); refine LeL.cons ?_ ?_; refine Le.litB ?_; (rfl); exact LeL.nil))
      exact ⟨n, m, bs, p, q, ⟨rfl, hok, hp, hq, by omega, hfn⟩⟩
  · left
    obtain ⟨so, fs, pr, fa⟩ := s
    refine Fn.enter (n := 103) Tryz.func14 rfl rfl rfl rfl rfl (by decide) fun g hro_ hwt_ => ?_; (try refine nz ?_)
    (refine Q64 ?_; (iterate 5 refine za ?_); refine zd ?_; refine Q4 ?_; refine Q135 ?_)
    (refine nz ?_; apply AW.loopR [1] [0] (fun k : Nat => ([(8, litI k), (7, litI (at'.take k).sum)] : List (Nat × AV))) (fun k : Nat => ([] : List (Nat × Option Ob))) (fun k : Nat => k ≤ at'.length ∧ k ≤ 4 ∧ ∀ x ∈ at'.take k, 0 ≤ x ∧ x ≤ 5) (fun k : Nat => at'.length - k) (0); (conv => lhs; simp only [Nf.lpR, Nf.all, Nat.reduceBEq, reduceAdd, reduceSub]); (all_goals skip))
    · exact ⟨Nat.zero_le _, Nat.zero_le _, by simp⟩
    · exact Q141
    rintro k ⟨hk, hk4, hx⟩
    have hsb := sum_le5 hx
    have htl := List.length_take_le k at'
    by_cases hlt : k < at'.length ∧ k < 4
    · obtain ⟨hlt, hlt4⟩ := hlt
      by_cases hxk : 0 ≤ at'[k] ∧ at'[k] ≤ 5
      · have hs := sum_snoc at' hlt
        have hx' : ∀ x ∈ at'.take (k + 1), 0 ≤ x ∧ x ≤ 5 := by
          rw [take_succ_get hlt]
          intro x h
          rcases List.mem_append.1 h with h | h
          · exact hx x h
          · rw [List.mem_singleton] at h; subst h; exact hxk
        (refine Q166 ?_; (focus ((with_reducible apply AOps.index_map); (iterate 7 exact rfl); rotate_left; omega)); refine zr ?_; refine zj ?_; refine Q51 ?_; refine Q71 ?_; refine zm ?_; (focus ((with_reducible apply AOps.index_map); (iterate 7 exact rfl); rotate_left; omega)); refine Q331 ?_; (focus ((with_reducible apply AOps.index_map); (iterate 7 exact rfl); rotate_left; omega)); refine Q314 ?_; refine Q99 ?_)
        exact ⟨k + 1, ⟨by omega, by omega, hx'⟩, by omega, weak rfl (by (refine ⟨.intE (by first | with_reducible rfl | (first | rfl | (rw [hs]))), ?_⟩; refine ⟨.intE (by first | with_reducible rfl | (first | rfl | (rw [hs]))), ?_⟩; refine ⟨.eq rfl rfl, ?_⟩; exact trivial)) (by (refine ⟨.box _ rfl ?_, ?_⟩; refine ⟨.pvE (by first | with_reducible rfl | (first | rfl | (rw [hs]))), ?_⟩; refine ⟨.pvE (by first | with_reducible rfl | (first | rfl | (rw [hs]))), ?_⟩; (iterate 2 refine ⟨.eq rfl rfl, ?_⟩); refine ⟨.pvE (by first | with_reducible rfl | (first | rfl | (rw [hs]))), ?_⟩; refine ⟨.intE (by first | with_reducible rfl | (first | rfl | (rw [hs]))), ?_⟩; refine ⟨.pvE (by first | with_reducible rfl | (first | rfl | (rw [hs]))), ?_⟩; refine ⟨.intE (by first | with_reducible rfl | (first | rfl | (rw [hs]))), ?_⟩; refine ⟨.intE (by first | with_reducible rfl | (first | rfl | (rw [hs]))), ?_⟩; (iterate 2 exact trivial))) rfl⟩
      · by_cases hn0 : at'[k] < 0
        · (refine Q166 ?_; (focus ((with_reducible apply AOps.index_map); (iterate 7 exact rfl); rotate_left; omega)); refine zr ?_; refine AOps.addw rfl rfl rfl rfl rfl ?_; refine Q51 ?_; refine Q71 ?_; refine zm ?_; (focus ((with_reducible apply AOps.index_map); (iterate 7 exact rfl); rotate_left; omega)); refine Q301 ?_; refine zm ?_; (iterate 7 refine AOps.guardFn rfl rfl rfl rfl rfl rfl (by with_reducible assumption) ?_); refine zT ?_; refine Q216 ?_; refine Q275 ?_; refine Q27 ?_)
          (apply ends_ret; (exact Res.five (.tmp rfl rfl) (.tmp rfl rfl) (.tmp rfl rfl) (.tmp rfl rfl) (.tmp rfl rfl)); (refine Le.tupL ?_; (iterate 2 refine Q78 ?_); refine LeL.cons ?_ ?_; refine Le.litB ?_; (rfl); exact LeL.nil))
        · have hn5 : 5 < at'[k] := by omega
          (refine Q166 ?_; (focus ((with_reducible apply AOps.index_map); (iterate 7 exact rfl); rotate_left; omega)); refine zr ?_; refine AOps.addw rfl rfl rfl rfl rfl ?_; refine Q51 ?_; refine Q71 ?_; refine zm ?_; (focus ((with_reducible apply AOps.index_map); (iterate 7 exact rfl); rotate_left; omega)); refine Q331 ?_; (focus ((with_reducible apply AOps.index_map); (iterate 7 exact rfl); rotate_left; omega)); refine Q314 ?_; refine Q83 ?_; refine Q275 ?_; refine Q27 ?_)
          (apply ends_ret; (exact Res.five (.tmp rfl rfl) (.tmp rfl rfl) (.tmp rfl rfl) (.tmp rfl rfl) (.tmp rfl rfl)); (refine Le.tupL ?_; (iterate 2 refine Q78 ?_); refine LeL.cons ?_ ?_; refine Le.litB ?_; (rfl); exact LeL.nil))
    · by_cases hn5 : 5 < (at'.take k).sum
      · (refine Q98 ?_; refine Q71 ?_; refine Q86 ?_; refine zm ?_; (focus ((with_reducible apply AOps.guardT); (iterate 6 exact rfl); all_goals intro hc_)); refine zm ?_; refine Q206 ?_; refine zd ?_; refine Q201 ?_; refine Q274 ?_; refine zm ?_; refine Q283 ?_; refine Q216 ?_; refine Q275 ?_; refine thenD_ret ?_; (all_goals skip); rotate_left; refine Q316 ?_; refine Q321 ?_; refine Q274 ?_; refine zm ?_; refine Q283 ?_; refine Q216 ?_; refine Q275 ?_; refine thenD_ret ?_; (all_goals skip); rotate_left)
        all_goals (apply ends_ret; (exact Res.five (.tmp rfl rfl) (.tmp rfl rfl) (.tmp rfl rfl) (.tmp rfl rfl) (.tmp rfl rfl)); (refine Le.tupL ?_; (iterate 2 refine Q78 ?_); refine LeL.cons ?_ ?_; refine Le.litB ?_; (rfl); exact LeL.nil))
      · have hff : fits9 ⟨so, fs, pr, fa⟩ at' st = false := by
          cases hf : fits9 ⟨so, fs, pr, fa⟩ at' st with
          | false => rfl
          | true =>
            exfalso
            have h4 := (fits_more hf).1
            have e : at'.take k = at' := List.take_of_length_le (by omega)
            rw [e] at hx hn5
            exact h5 ⟨h4, hx, by omega, hf⟩
        rw [hff] at hfi
        (refine Q98 ?_; refine Q71 ?_; refine Q86 ?_; refine zm ?_; (focus ((with_reducible apply AOps.guardT); (iterate 6 exact rfl); all_goals intro hc_)); refine zm ?_; refine Q206 ?_; refine zd ?_; refine Q201 ?_; refine Q274 ?_; refine Q173 ?_; (with_reducible apply AOps.load_bs); (iterate 3 exact rfl); (repeat' first | exact Sub.nil | apply Sub.take | apply Sub.skip); (iterate 3 exact rfl); refine Q111 ?_; (with_reducible apply AOps.load_bs); (iterate 3 exact rfl); (repeat' first | exact Sub.nil | apply Sub.take | apply Sub.skip); (iterate 3 exact rfl); refine Q221 ?_; refine Q216 ?_; refine Q275 ?_; refine thenD_ret ?_; (all_goals skip); rotate_left; refine Q316 ?_; refine Q321 ?_; refine Q274 ?_; refine Q173 ?_; (with_reducible apply AOps.load_bs); (iterate 3 exact rfl); (repeat' first | exact Sub.nil | apply Sub.take | apply Sub.skip); (iterate 3 exact rfl); refine Q111 ?_; (with_reducible apply AOps.load_bs); (iterate 3 exact rfl); (repeat' first | exact Sub.nil | apply Sub.take | apply Sub.skip); (iterate 3 exact rfl); refine Q221 ?_; refine Q216 ?_; refine Q275 ?_; refine thenD_ret ?_; (all_goals skip); rotate_left)
        all_goals (apply ends_ret; (exact Res.five (.tmp rfl rfl) (.tmp rfl rfl) (.tmp rfl rfl) (.tmp rfl rfl) (.tmp rfl rfl)); (refine Le.tupL ?_; (iterate 2 refine Q78 ?_); refine LeL.cons ?_ ?_; refine Le.litB ?_; (rfl); exact LeL.nil))
end Go.Ab
/- Chapter 24: two numberings of the loop selectors give the same permutations, in plain terms. -/
namespace Go.Ab
open Go Go.Proofs
set_option maxRecDepth 20000
set_option maxHeartbeats 4000000
theorem findIdx_cg {α : Type} {p q : α → Bool} : ∀ {l : List α}, (∀ x ∈ l, p x = q x) → l.findIdx p = l.findIdx q
  | [], _ => rfl
  | a :: l, h => by
    rw [List.findIdx_cons, List.findIdx_cons, h a (by simp), findIdx_cg (l := l) fun x hx => h x (by simp [hx])]
theorem findIdx_mp {α β : Type} (f : α → β) (p : β → Bool) : ∀ l : List α, (l.map f).findIdx p = l.findIdx fun x => p (f x)
  | [] => rfl
  | a :: l => by
    rw [List.map_cons, List.findIdx_cons, List.findIdx_cons, findIdx_mp f p l]
def shV (v : VarT) : VarT := if v.1 = -1 then (v.1, v.2.1, v.2.2 + 1) else v
theorem sh_inj {u v : VarT} (h : shV u = shV v) : u = v := by
  obtain ⟨a, b, c⟩ := u
  obtain ⟨a', b', c'⟩ := v
  unfold shV at h
  simp only at h
  split at h <;> split at h <;> simp only [Prod.mk.injEq] at h ⊢ <;> omega
theorem vars_sh (st : Nat) (fr : List (Int × Int)) (vr : Int → Bool) : varsM 1 st fr vr = (varsM 0 st fr vr).map shV := by
  unfold varsM
  rw [List.map_append]
  congr 1
  · unfold selV
    rw [List.map_map]
    refine List.map_congr_left fun i _ => ?_
    simp [shV]
  · rw [List.map_flatMap]
    congr 1
    funext s
    unfold stV
    rw [List.map_map]
    refine List.map_congr_left fun t _ => ?_
    show ((s : Int), t.1, t.2) = shV ((s : Int), t.1, t.2)
    unfold shV
    rw [if_neg (by simp only; omega)]
theorem act_sh (n : Nat) (ar : Int → Nat) (p : List Int) (v : VarT) : actV n ar p (shV v) = shV (actV n ar p v) := by
  obtain ⟨a, b, c⟩ := v
  unfold shV actV
  by_cases h : a = -1
  · subst h
    simp
  · by_cases h0 : 0 ≤ a
    · simp [h, h0]
    · simp [h, h0]
theorem act_mem1 {n : Nat} {ar : Int → Nat} {st : Nat} {fr : List (Int × Int)} {vr : Int → Bool} {p : List Int} (h : ∀ v ∈ varsM 0 st fr vr, actV n ar p v ∈ varsM 0 st fr vr) : ∀ v ∈ varsM 1 st fr vr, actV n ar p v ∈ varsM 1 st fr vr := by
  rw [vars_sh]
  intro v hv
  obtain ⟨u, hu, rfl⟩ := List.mem_map.1 hv
  rw [act_sh]
  exact List.mem_map.2 ⟨_, h u hu, rfl⟩
theorem lit_o {n : Nat} {ar : Int → Nat} {st : Nat} {vr : Int → Bool} {bs : List BndM} {p : List Int} : litV 1 n ar st vr bs p = litV 0 n ar st vr bs p := by
  unfold litV litsL
  rw [vars_sh, List.map_map]
  refine List.map_congr_left fun v _ => ?_
  show (((varsM 0 st (freeL 0 bs) vr).map shV).findIdx (fun u => decide (u = actV n ar p (shV v))) : Int) + 1 = _
  rw [findIdx_mp, act_sh]
  congr 2
  refine findIdx_cg fun u _ => ?_
  rw [decide_eq_decide]
  exact ⟨sh_inj, fun h => by rw [h]⟩
def findZ (l : List VarT) (v : VarT) : Int := if v ∈ l then (l.findIdx (fun u => decide (u = v)) : Int) + 1 else 0
theorem findZ_yes {l : List VarT} {v : VarT} {k : Nat} (hk : k < l.length) (hno : v ∉ l.take k) (he : l[k] = v) : findZ l v = (k : Int) + 1 := by
  unfold findZ
  rw [if_pos (he ▸ List.getElem_mem hk)]
  congr 2
  rw [List.findIdx_eq hk]
  refine ⟨by simp [he], fun j hj => ?_⟩
  rw [decide_eq_false_iff_not]
  intro e
  exact hno (List.mem_take_iff_getElem.2 ⟨j, by omega, e⟩)
theorem findZ_no {l : List VarT} {v : VarT} (h : v ∉ l) : findZ l v = 0 := if_neg h
def outZ (V : List VarT) (f : VarT → VarT) (k : Nat) : List Int := (V.take k).map fun v => findZ V (f v)
theorem outZ_len (V : List VarT) (f : VarT → VarT) (k : Nat) : (outZ V f k).length ≤ k := by
  unfold outZ
  rw [List.length_map]
  exact List.length_take_le k V
theorem outZ_snoc {V : List VarT} (f : VarT → VarT) {k : Nat} (h : k < V.length) : outZ V f (k + 1) = outZ V f k ++ [findZ V (f V[k])] := by
  unfold outZ
  rw [List.take_succ_eq_append_getElem h, List.map_append]; rfl
theorem outZ_all {V : List VarT} {f : VarT → VarT} (h : ∀ v ∈ V, f v ∈ V) : outZ V f V.length = litsL V f := by
  unfold outZ litsL
  rw [List.take_length]
  refine List.map_congr_left fun v hv => ?_
  unfold findZ
  rw [if_pos (h v hv)]
end Go.Ab
/- Chapter 24: the reference's Literals, Predicate, Breaking and Leader, walked. -/
namespace Go.Ab
open Go Go.Proofs
open Nat (reduceAdd reduceSub)
set_option maxRecDepth 20000
set_option maxHeartbeats 8000000
attribute [local irreducible] AW AOps thenD inBlockD AR iterEnds roundEndsN inlEnds noGotoD findZ outZ varsM freeL imgR canon actV predM andG inputG orG notR brkM litV leadM imgM ngF ordM
abbrev varA (v : VarT) : AV := .agg [litI v.1, litI v.2.1, litI v.2.2]
theorem find24_fn (l : List VarT) (v : VarT) (hl : l.length ≤ 100000000) : Fn Tryz.prog 51 [.pv (varsV l), varA v] (litI (findZ l v)) := by
  obtain ⟨a, b, c⟩ := v
  refine Fn.enter (n := 20) Tryz.func51 rfl rfl rfl rfl rfl (by decide) fun g hro_ hwt_ => ?_; (try refine nz ?_)
  (refine Q64 ?_; refine Q135 ?_)
  (refine nz ?_; apply AW.loopR [3, 0] [0] (fun k : Nat => ([(5, litI k)] : List (Nat × AV))) (fun k : Nat => ([] : List (Nat × Option Ob))) (fun k : Nat => k ≤ l.length ∧ (a, b, c) ∉ l.take k) (fun k : Nat => l.length - k) (0); (conv => lhs; simp only [Nf.lpR, Nf.all, Nat.reduceBEq, reduceAdd, reduceSub]); (all_goals skip))
  · exact ⟨Nat.zero_le _, by simp⟩
  · exact weak rfl (by (refine ⟨.eq rfl rfl, ?_⟩; (iterate 2 refine ⟨.eq rfl rfl, ?_⟩); exact trivial)) (by (refine ⟨.box _ rfl ?_, ?_⟩; (iterate 3 refine ⟨.eq rfl rfl, ?_⟩); (iterate 2 exact trivial))) rfl
  rintro k ⟨hk, hno⟩
  by_cases hlt : k < l.length
  · by_cases he : l[k] = (a, b, c)
    · rw [findZ_yes hlt hno he]
      have h1 : l[k].1 = a ∧ l[k].2.1 = b ∧ l[k].2.2 = c := by rw [he]; exact ⟨rfl, rfl, rfl⟩
      (refine Q89 ?_; (with_reducible apply AW.regionQ); exact rfl; exact rfl; kernel_rfl; (with_reducible assumption); (iterate 2 refine zm ?_); (focus ((with_reducible apply AOps.index_map); (iterate 7 exact rfl); rotate_left; omega)); refine Q253 ?_; refine Q334 ?_; refine zj ?_; refine Q200 ?_)
      (apply ends_ret; (exact Res.one (.tmp rfl rfl)); (refine Le.litI ?_; (rfl)))
    · have h1 : ¬ (l[k].1 = a ∧ l[k].2.1 = b ∧ l[k].2.2 = c) := fun h => he (Prod.ext h.1 (Prod.ext h.2.1 h.2.2))
      have hs : (a, b, c) ∉ l.take (k + 1) := by
        rw [take_succ_get hlt, List.mem_append]
        rintro (h | h)
        · exact hno h
        · exact he (List.mem_singleton.1 h).symm
      (refine Q89 ?_; (with_reducible apply AW.regionQ); exact rfl; exact rfl; kernel_rfl; (with_reducible assumption); (iterate 2 refine zm ?_); (focus ((with_reducible apply AOps.index_map); (iterate 7 exact rfl); rotate_left; omega)); refine Q253 ?_; refine Q99 ?_)
      exact ⟨k + 1, ⟨by omega, hs⟩, by omega, weak rfl (by (refine ⟨.eq rfl rfl, ?_⟩; (iterate 2 refine ⟨.eq rfl rfl, ?_⟩); exact trivial)) (by (refine ⟨.box _ rfl ?_, ?_⟩; (iterate 3 refine ⟨.eq rfl rfl, ?_⟩); (iterate 2 exact trivial))) rfl⟩
  · rw [take_all (l := l) (by omega)] at hno
    rw [findZ_no hno]
    (refine Q10 ?_; refine Q189 ?_)
    (apply ends_ret; (exact Res.one (.tmp rfl rfl)); (refine Le.litI ?_; (rfl)))
theorem rLeader_fn (vals : List Bool) (perms : List (List Int)) (hp : ∀ p ∈ perms, PermOk p ∧ p.length ≤ 1000) (hl : perms.length ≤ 100000) : Fn Tryz.prog 13 [.pv (bools vals), .pv (intss perms)] (litB (leadM vals perms)) := by
  refine Fn.enter (n := 27) Tryz.func13 rfl rfl rfl rfl rfl (by decide) fun g hro_ hwt_ => ?_; (try refine nz ?_)
  (refine zq ?_; refine Q135 ?_)
  (refine nz ?_; apply AW.loopR [0, 1] [] (fun k : Nat => ([(5, litI k)] : List (Nat × AV))) (fun k : Nat => ([] : List (Nat × Option Ob))) (fun k : Nat => k ≤ perms.length ∧ leadM vals perms = (perms.drop k).all (leadP vals)) (fun k : Nat => perms.length - k) (0); (conv => lhs; simp only [Nf.lpR, Nf.all, Nat.reduceBEq, reduceAdd, reduceSub]); (all_goals skip))
  · exact ⟨Nat.zero_le _, by unfold leadM; rfl⟩
  · exact Q163
  rintro k ⟨hk, he⟩
  by_cases hlt : k < perms.length
  · obtain ⟨h1, h2⟩ := hp _ (List.getElem_mem hlt)
    have fi := img24_fn vals perms[k] h1 h2
    have fo := ord24_fnO perms[k].length h2
    have fg := ng24_fn vals (imgM vals perms[k]) (ordM perms[k].length) (fun w hw => by have := ord_mem.1 hw; omega) (by rw [ord_len]; omega)
    rw [List.drop_eq_getElem_cons hlt, List.all_cons] at he
    have hld : leadP vals perms[k] = ngF (inV vals) (inV (imgM vals perms[k])) (ordM perms[k].length) := rfl
    rw [← hld] at fg
    cases hb : leadP vals perms[k] with
    | true =>
      rw [hb] at fg he
      rw [Bool.true_and] at he
      (refine Q89 ?_; refine AW.regionM [0, 1, 2, 3, 4, 5, 7, 8, 9, 10, 11] [] rfl (by assumption) (by kernel_rfl) (by kernel_rfl) rfl ?_; show AOps .held _ _ _ [_, _, _, _, _, _, _, _, _, _, _] _ _; (iterate 4 refine zm ?_); (focus ((with_reducible apply AOps.index_map); (iterate 7 exact rfl); rotate_left; omega)); refine Q252 ?_; (focus ((with_reducible apply AOps.index_map); (iterate 7 exact rfl); rotate_left; omega)); refine zr ?_; refine zn ?_; refine Q7 ?_; intro k_ hk_; refine nz ?_; refine AR.step1M (i := 6) rfl (by kernel_rfl) rfl ?_; intro g_ hgro_ hw_; refine zP (fi) ?_; refine Q307 ?_; intro g_ hgro_ hw_; (with_reducible apply AOps.calloD (fo)); exact lits_map (fun _ => ⟨_, rfl⟩) _; (repeat (first | exact .nil | (refine .cons rfl ?_ ?_; (first | exact .pv _ | exact .own _ _ _ _ rfl | exact .nil _ | exact .any _ | exact .rptr _ | (refine .aggL ?_; repeat (first | exact .nil | (refine .cons ?_ ?_; (first | exact .pv _ | exact .own _ _ _ _ rfl | exact .nil _)))))))); exact rfl; refine Q121 ?_; refine AR.step1M (i := 13) rfl (by kernel_rfl) rfl ?_; intro g_ hgro_ hw_; refine zA (fg) ?_; refine Q7 ?_; refine Q233 ?_; intro g_ hgro_; show AOps .held _ _ _ [_] _ _; refine AOps.not rfl rfl rfl ?_; refine Q7 ?_; intro k_ hk_; refine nz ?_; refine Q33 ?_; refine AW.cond_lf rfl rfl ?_; refine AW.skip ?_; refine Q11 ?_; refine zm ?_; refine zj ?_; refine Q5 ?_)
      exact ⟨k + 1, ⟨by omega, he⟩, by omega, weak rfl (by (refine ⟨.eq rfl rfl, ?_⟩; (iterate 2 refine ⟨.eq rfl rfl, ?_⟩); exact trivial)) (by (exact trivial)) rfl⟩
    | false =>
      rw [hb] at fg he
      rw [Bool.false_and] at he
      rw [he]
      (refine Q89 ?_; refine AW.regionM [0, 1, 2, 3, 4, 5, 7, 8, 9, 10, 11] [] rfl (by assumption) (by kernel_rfl) (by kernel_rfl) rfl ?_; show AOps .held _ _ _ [_, _, _, _, _, _, _, _, _, _, _] _ _; (iterate 4 refine zm ?_); (focus ((with_reducible apply AOps.index_map); (iterate 7 exact rfl); rotate_left; omega)); refine Q252 ?_; (focus ((with_reducible apply AOps.index_map); (iterate 7 exact rfl); rotate_left; omega)); refine zr ?_; refine zn ?_; refine Q7 ?_; intro k_ hk_; refine nz ?_; refine AR.step1M (i := 6) rfl (by kernel_rfl) rfl ?_; intro g_ hgro_ hw_; refine zP (fi) ?_; refine Q307 ?_; intro g_ hgro_ hw_; (with_reducible apply AOps.calloD (fo)); exact lits_map (fun _ => ⟨_, rfl⟩) _; (repeat (first | exact .nil | (refine .cons rfl ?_ ?_; (first | exact .pv _ | exact .own _ _ _ _ rfl | exact .nil _ | exact .any _ | exact .rptr _ | (refine .aggL ?_; repeat (first | exact .nil | (refine .cons ?_ ?_; (first | exact .pv _ | exact .own _ _ _ _ rfl | exact .nil _)))))))); exact rfl; refine Q121 ?_; refine AR.step1M (i := 13) rfl (by kernel_rfl) rfl ?_; intro g_ hgro_ hw_; refine zA (fg) ?_; refine Q7 ?_; refine Q233 ?_; intro g_ hgro_; show AOps .held _ _ _ [_] _ _; refine AOps.not rfl rfl rfl ?_; refine Q7 ?_; intro k_ hk_; refine nz ?_; refine Q33 ?_; refine AW.cond_lt rfl rfl ?_; refine zq ?_; refine Q200 ?_)
      (apply ends_ret; (exact Res.one (.tmp rfl rfl)); (refine Le.litB ?_; (rfl)))
  · rw [List.drop_eq_nil_of_le (by omega)] at he
    rw [he]
    (refine Q10 ?_; refine Q189 ?_)
    (apply ends_ret; (exact Res.one (.tmp rfl rfl)); (refine Le.litB ?_; (rfl)))
end Go.Ab
