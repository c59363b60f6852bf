/- Chapter 09: what is examined; the relations inside bounds. -/
import Derived.Test.YtcklfjkaadfjjaaGreatApK13
import Derived.Test.YtcklfjkaadfjjaaGreatAbZ
import Derived.Test.YtcklfjkaadfjjaaGreatAbL3
import Derived.Test.YtcklfjkaadfjjaaGreatAbL4
import Derived.Test.YtcklfjkaadfjjaaGreatApB4
import Derived.Test.YtcklfjkaadfjjaaGreatApB2
import Derived.Test.YtcklfjkaadfjjaaGreatAbL2
set_option linter.unusedSimpArgs false
set_option linter.unusedVariables false
namespace Go.Ab
open Go Go.Proofs
open Nat (reduceAdd reduceSub)
set_option maxRecDepth 20000
set_option maxHeartbeats 4000000
def fits9 (s : SpecM) (at' : List Int) (st : Int) : Bool := decide (1 ≤ s.sorts.length ∧ s.sorts.length ≤ 4 ∧ s.fields.length ≤ 6 ∧ at'.length ≤ 4) && (fieldsB s.sorts.length s.fields && (decide (s.sorts.length = at'.length) && sizedB at' st))
def insL (pk : Nat → Bool) (low : List Int) : Nat → List Int → List Int
  | _, [] => []
  | n, t :: ts => if t ∈ low then t :: insL pk low n ts else (if pk n = true then [t] else []) ++ insL pk low (n + 1) ts
def pkB (picks : List Bool) (n : Nat) : Bool := picks.getD n false
attribute [local irreducible] AW AOps thenD inBlockD AR iterEnds roundEndsN inlEnds noGotoD canon diffL interL subL relOk rks pkB insL
theorem fits9_fn (s : SpecM) (at' : List Int) (st : Int) : Fn Tryz.prog 40 [spc s, scp at' st] (litB (fits9 s at' st)) := by
  obtain ⟨so, fs, p, q⟩ := s
  have hv := r5Valid_fn ⟨so, fs, p, q⟩ at' st
  refine Fn.enter (n := 75) Tryz.func40 rfl rfl rfl rfl rfl (by decide) fun g hro_ hwt_ => ?_; (try refine nz ?_)
  by_cases h1 : so.length = 0
  · have hz : fits9 ⟨so, fs, p, q⟩ at' st = false := by unfold fits9; simp only [Bool.and_eq_false_iff, decide_eq_false_iff_not]; left; first | omega | (simp only; omega)
    rw [hz]
    (refine Q105 ?_; refine Q61 ?_; refine AOps.fieldAddrN 27 0 0 rfl rfl rfl rfl ?_; refine zb ?_; refine zn ?_; refine AOps.eql rfl rfl rfl rfl rfl ?_; refine zm ?_; refine Q291 ?_; refine zm ?_; refine Q125 ?_; refine zm ?_; refine Q125 ?_; refine Q216 ?_; refine Q57 ?_)
    (apply ends_ret; (exact Res.one (.tmp rfl rfl)); (refine Le.litB ?_; (rfl)))
  by_cases h2 : 4 < so.length
  · have hz : fits9 ⟨so, fs, p, q⟩ at' st = false := by unfold fits9; simp only [Bool.and_eq_false_iff, decide_eq_false_iff_not]; left; first | omega | (simp only; omega)
    rw [hz]
    (refine Q119 ?_; refine Q291 ?_; refine zm ?_; refine Q125 ?_; refine Q216 ?_; refine Q57 ?_)
    (apply ends_ret; (exact Res.one (.tmp rfl rfl)); (refine Le.litB ?_; (rfl)))
  by_cases h3 : 6 < fs.length
  · have hz : fits9 ⟨so, fs, p, q⟩ at' st = false := by unfold fits9; simp only [Bool.and_eq_false_iff, decide_eq_false_iff_not]; left; first | omega | (simp only; omega)
    rw [hz]
    (refine Q236 ?_; refine zm ?_; refine Q291 ?_; refine Q216 ?_; refine Q57 ?_)
    (apply ends_ret; (exact Res.one (.tmp rfl rfl)); (refine Le.litB ?_; (rfl)))
  by_cases h4 : 4 < at'.length
  · have hz : fits9 ⟨so, fs, p, q⟩ at' st = false := by unfold fits9; simp only [Bool.and_eq_false_iff, decide_eq_false_iff_not]; left; first | omega | (simp only; omega)
    rw [hz]
    (refine Q236 ?_; refine Q131 ?_; refine Q137 ?_; refine zn ?_; refine Q36 ?_; refine Q83 ?_; refine Q57 ?_)
    (apply ends_ret; (exact Res.one (.tmp rfl rfl)); (refine Le.litB ?_; (rfl)))
  have hz : fits9 ⟨so, fs, p, q⟩ at' st = (fieldsB so.length fs && (decide (so.length = at'.length) && sizedB at' st)) := by
    unfold fits9
    rw [decide_eq_true (by refine ⟨?_, ?_, ?_, ?_⟩ <;> first | omega | (simp only; omega)), Bool.true_and]
  rw [hz]
  (refine Q236 ?_; refine Q131 ?_; refine Q137 ?_; refine zn ?_; refine Q36 ?_; refine Q234 ?_; refine Q75 ?_)
  (refine nz ?_; apply AW.loopR [3, 2] [1, 0] (fun i : Nat => ([(5, litI i)] : List (Nat × AV))) (fun i : Nat => ([] : List (Nat × Option Ob))) (fun i : Nat => i ≤ fs.length ∧ fieldsB so.length fs = fieldsB so.length (fs.drop i)) (fun i : Nat => fs.length - i) (0); (conv => lhs; simp only [Nf.lpR, Nf.all, Nat.reduceBEq, reduceAdd, reduceSub]); (all_goals skip))
  · exact ⟨Nat.zero_le _, rfl⟩
  · exact Q150
  rintro i ⟨hi, he⟩
  by_cases hlt : i < fs.length
  · rw [fieldsB_drop hlt] at he
    by_cases h5 : fs[i].sorts.length < 1
    · have hc : colsB so.length fs[i].sorts = false := by unfold colsB; rw [decide_eq_false (by omega), Bool.false_and]
      rw [hc, Bool.false_and] at he
      rw [he, Bool.false_and]
      (refine Q311 ?_; refine zm ?_; (focus ((with_reducible apply AOps.index_map); (iterate 7 exact rfl); rotate_left; omega)); refine Q191 ?_; refine Q214 ?_; refine Q86 ?_; refine zm ?_; (iterate 3 refine AOps.guardFn rfl rfl rfl rfl rfl rfl (by first | omega | decide) ?_); refine zT ?_; refine Q216 ?_; refine Q57 ?_; refine Q27 ?_)
      (apply ends_ret; (exact Res.one (.tmp rfl rfl)); (refine Le.litB ?_; (rfl)))
    by_cases h6 : 3 < fs[i].sorts.length
    · have hc : colsB so.length fs[i].sorts = false := by unfold colsB; rw [decide_eq_false (by omega), Bool.false_and]
      rw [hc, Bool.false_and] at he
      rw [he, Bool.false_and]
      (refine Q311 ?_; refine zm ?_; (focus ((with_reducible apply AOps.index_map); (iterate 7 exact rfl); rotate_left; omega)); refine Q191 ?_; refine Q214 ?_; refine Q86 ?_; refine Q225 ?_; refine Q83 ?_; refine Q57 ?_; refine Q27 ?_)
      (apply ends_ret; (exact Res.one (.tmp rfl rfl)); (refine Le.litB ?_; (rfl)))
    have hc : colsB so.length fs[i].sorts = insB so.length fs[i].sorts := by unfold colsB; rw [decide_eq_true (by omega), Bool.true_and]
    rw [hc] at he
    (refine Q311 ?_; refine zm ?_; (focus ((with_reducible apply AOps.index_map); (iterate 7 exact rfl); rotate_left; omega)); refine Q191 ?_; refine Q214 ?_; refine Q86 ?_; refine Q225 ?_; refine Q184 ?_; refine Q75 ?_)
    (refine nz ?_; apply AW.loopR [6, 5, 3, 2] [1, 0] (fun k : Nat => ([(7, litI k)] : List (Nat × AV))) (fun k : Nat => ([] : List (Nat × Option Ob))) (fun k : Nat => k ≤ fs[i].sorts.length ∧ insB so.length fs[i].sorts = insB so.length (fs[i].sorts.drop k)) (fun k : Nat => fs[i].sorts.length - k) (0); (conv => lhs; simp only [Nf.lpR, Nf.all, Nat.reduceBEq, reduceAdd, reduceSub]); (all_goals skip))
    · exact ⟨Nat.zero_le _, rfl⟩
    · exact Q150
    rintro k ⟨hk, he2⟩
    by_cases hlt2 : k < fs[i].sorts.length
    · rw [insB_drop hlt2] at he2
      by_cases h7 : fs[i].sorts[k] < 0
      · rw [decide_eq_false (by omega), Bool.false_and] at he2
        rw [he2, Bool.false_and] at he
        rw [he, Bool.false_and]
        (refine Q89 ?_; (with_reducible apply AW.regionQ); exact rfl; exact rfl; kernel_rfl; (with_reducible assumption); (iterate 2 refine zm ?_); (focus ((with_reducible apply AOps.index_map); (iterate 7 exact rfl); rotate_left; omega)); refine Q301 ?_; refine zm ?_; (iterate 8 refine AOps.guardFn rfl rfl rfl rfl rfl rfl (by with_reducible assumption) ?_); refine zT ?_; refine Q216 ?_; refine Q284 ?_)
        (apply ends_ret; (exact Res.one (.tmp rfl rfl)); (refine Le.litB ?_; (rfl)))
      by_cases h8 : (so.length : Int) ≤ fs[i].sorts[k]
      · rw [decide_eq_false (by omega), Bool.false_and] at he2
        rw [he2, Bool.false_and] at he
        rw [he, Bool.false_and]
        (refine Q89 ?_; (with_reducible apply AW.regionQ); exact rfl; exact rfl; kernel_rfl; (with_reducible assumption); (iterate 2 refine zm ?_); (focus ((with_reducible apply AOps.index_map); (iterate 7 exact rfl); rotate_left; omega)); refine Q301 ?_; refine Q13 ?_; refine Q131 ?_; (focus ((with_reducible apply AOps.index_map); (iterate 7 exact rfl); rotate_left; omega)); refine Q277 ?_; refine AOps.fieldAddrN 27 0 0 rfl rfl rfl rfl ?_; refine Q70 ?_; refine zn ?_; refine zy ?_; refine Q195 ?_; refine Q83 ?_; refine Q284 ?_)
        (apply ends_ret; (exact Res.one (.tmp rfl rfl)); (refine Le.litB ?_; (rfl)))
      rw [decide_eq_true (by omega), Bool.true_and] at he2
      (refine Q89 ?_; (with_reducible apply AW.regionQ); exact rfl; exact rfl; kernel_rfl; (with_reducible assumption); (iterate 2 refine zm ?_); (focus ((with_reducible apply AOps.index_map); (iterate 7 exact rfl); rotate_left; omega)); refine Q301 ?_; refine Q13 ?_; refine Q131 ?_; (focus ((with_reducible apply AOps.index_map); (iterate 7 exact rfl); rotate_left; omega)); refine Q277 ?_; refine AOps.fieldAddrN 27 0 0 rfl rfl rfl rfl ?_; refine Q70 ?_; refine zn ?_; refine zy ?_; refine Q195 ?_; refine Q99 ?_)
      exact ⟨k + 1, ⟨by omega, he2⟩, by omega, weak rfl (by (first | (refine ⟨.eq rfl rfl, ?_⟩; (iterate 4 refine ⟨.eq rfl rfl, ?_⟩); exact trivial) | (refine ⟨.eq rfl rfl, ?_⟩; (iterate 2 refine ⟨.eq rfl rfl, ?_⟩); exact trivial))) (by (refine ⟨.box _ rfl ?_, ?_⟩; (iterate 2 refine ⟨.eq rfl rfl, ?_⟩); exact trivial; refine ⟨.box _ rfl ?_, ?_⟩; (iterate 4 refine ⟨.eq rfl rfl, ?_⟩); (iterate 2 exact trivial))) rfl⟩
    · rw [List.drop_eq_nil_of_le (by omega)] at he2
      have he2 : insB so.length fs[i].sorts = true := he2
      rw [he2, Bool.true_and] at he
      (refine Q10 ?_; refine Q201 ?_; refine Q29 ?_)
      exact ⟨i + 1, ⟨by omega, he⟩, by omega, weak rfl (by (first | (refine ⟨.eq rfl rfl, ?_⟩; (iterate 4 refine ⟨.eq rfl rfl, ?_⟩); exact trivial) | (refine ⟨.eq rfl rfl, ?_⟩; (iterate 2 refine ⟨.eq rfl rfl, ?_⟩); exact trivial))) (by (refine ⟨.box _ rfl ?_, ?_⟩; (iterate 2 refine ⟨.eq rfl rfl, ?_⟩); exact trivial; refine ⟨.box _ rfl ?_, ?_⟩; (iterate 4 refine ⟨.eq rfl rfl, ?_⟩); (iterate 2 exact trivial))) rfl⟩
  · rw [List.drop_eq_nil_of_le (by omega)] at he
    have he : fieldsB so.length fs = true := he
    rw [he, Bool.true_and]
    (refine Q98 ?_; refine Q101 ?_; refine Q86 ?_; refine zd ?_; refine Q44 ?_; (iterate 2 refine Q41 ?_); refine zA (hv) ?_; refine Q42 ?_)
    (apply ends_ret; (exact Res.one (.tmp rfl rfl)); (refine Le.litB ?_; (rfl)))
end Go.Ab
/- Chapter 09: bounds made of raw data. -/
namespace Go.Ab
open Go Go.Proofs
open Nat (reduceAdd reduceSub)
set_option maxRecDepth 20000
set_option maxHeartbeats 4000000
theorem bitU_lt {row : List Int} {k : Nat} (h : k < row.length) : bitU row k = row[k] % 4 := by unfold bitU; rw [dif_pos h]
theorem bitU_ge {row : List Int} {k : Nat} (h : ¬ k < row.length) : bitU row k = 1 := by unfold bitU; rw [dif_neg h]
theorem lowL_len (row l : List Int) : (lowL row l).length ≤ l.length := selL_len _ _ _
theorem highL_len (row l : List Int) : (highL row l).length ≤ l.length := selL_len _ _ _
theorem lowL_nil (row : List Int) : lowL row [] = [] := rfl
theorem highL_nil (row : List Int) : highL row [] = [] := rfl
theorem row_at {raw : List (List Int)} {i : Nat} (h : i < raw.length) : raw.getD i [] = raw[i] := by rw [List.getD_eq_getElem?_getD, List.getElem?_eq_getElem h]; rfl
theorem row_out {raw : List (List Int)} {i : Nat} (h : ¬ i < raw.length) : raw.getD i [] = [] := by rw [List.getD_eq_getElem?_getD, List.getElem?_eq_none (by omega)]; rfl
attribute [local irreducible] AW AOps thenD inBlockD AR iterEnds roundEndsN inlEnds noGotoD canon diffL interL subL relOk rks lowL highL bitU mixL defM madeL
theorem made_fn (s : SpecM) (at' : List Int) (st : Int) (raw : List (List Int)) (hraw : ∀ r ∈ raw, ∀ x ∈ r, 0 ≤ x ∧ x ≤ 255) (hcols : ∀ f ∈ s.fields, colsB at'.length f.sorts = true) (hfs : s.fields.length ≤ 1000) (h : SmA at') (hsm : at'.sum ≤ 12) (h1 : 1 ≤ at'.sum) :
    Fn Tryz.prog 41 [spc s, scp at' st, .pv (raws raw)] (.pv (bnds (madeL at' raw 0 s.fields))) := by
  have hdf := r9default_fn s at' st hcols hfs h hsm h1
  obtain ⟨so, fs, p, q⟩ := s
  simp only at hcols hfs hdf ⊢
  rw [← mixL_zero at' raw fs] at hdf
  refine Fn.enter (n := 93) Tryz.func41 rfl rfl rfl rfl rfl (by decide) fun g hro_ hwt_ => ?_; (try refine nz ?_)
  (refine Q105 ?_; refine Q51 ?_; (iterate 2 refine Q41 ?_); (with_reducible apply AOps.callo (hdf)); (repeat (first | exact .nil | (refine .cons rfl ?_ ?_; (first | exact .pv _ | exact .own _ _ _ _ rfl | exact .nil _ | exact .any _ | exact .rptr _ | (refine .aggL ?_; repeat (first | exact .nil | (refine .cons ?_ ?_; (first | exact .pv _ | exact .own _ _ _ _ rfl | exact .nil _)))))))); exact rfl; refine nz ?_; refine Q31 ?_; refine Q30 ?_; refine Q75 ?_)
  (refine nz ?_; apply AW.loopR [6, 4, 2] [1] (fun i : Nat => ([(7, .own 2 115 4 ((mixL at' raw fs i).map encBn)), (8, litI i)] : List (Nat × AV))) (fun i : Nat => ([(2, some .row)] : List (Nat × Option Ob))) (fun i : Nat => i ≤ fs.length) (fun i : Nat => fs.length - i) (0); (conv => lhs; simp only [Nf.lpR, Nf.all, Nat.reduceBEq, reduceAdd, reduceSub]); (all_goals skip))
  · exact Nat.zero_le _
  · exact weak rfl (by (refine ⟨.ownE (by first | with_reducible rfl | (rfl)) rfl, ?_⟩; refine ⟨.intE (by first | with_reducible rfl | (rfl)), ?_⟩; (iterate 2 refine ⟨.eq rfl rfl, ?_⟩); refine ⟨.pvE (by first | with_reducible rfl | (rfl)), ?_⟩; exact trivial)) (by (refine ⟨.row rfl, ?_⟩; refine ⟨.box _ rfl ?_, ?_⟩; refine ⟨.pvE (by first | with_reducible rfl | (rfl)), ?_⟩; refine ⟨.intE (by first | with_reducible rfl | (rfl)), ?_⟩; (iterate 2 exact trivial))) rfl
  rintro i hi
  have hml := mixL_len (at' := at') (raw := raw) hi
  by_cases hlt : i < fs.length
  · have hmA := mixL_at (at' := at') (raw := raw) hlt
    have hmS := mixL_set (at' := at') (raw := raw) hlt
    have hFl : (defB at' fs[i]).2.2.length ≤ 1728 := relOk_len (full_ok (hcols _ (List.getElem_mem hlt)) h hsm)
    (refine Q98 ?_; refine Q259 ?_; refine zs ?_; refine Q299 ?_; refine Q319 ?_; refine Q235 ?_; (with_reducible apply AOps.fload_o 115 1 2 2); exact rfl; exact elmap (by omega); (iterate 9 exact rfl); refine nz ?_; refine Q120 ?_; refine zq ?_; refine Q115 ?_; refine Q248 ?_; refine nz ?_; refine Q120 ?_; refine zq ?_; refine Q115 ?_; refine Q248 ?_; refine nz ?_; refine Q120 ?_; refine Q46 ?_; refine Q75 ?_)
    rw [hmA]
    (refine nz ?_; apply AW.loopR [11, 10, 9, 7, 8, 6, 4, 2] [3, 2, 1] (fun k : Nat => ([(12, litI k)] : List (Nat × AV))) (fun k : Nat => ([(4, some (.box [litI (defB at' fs[i]).2.1, .own 6 3 1 ((lowL (raw.getD i []) ((defB at' fs[i]).2.2.take k)).map encI)])), (5, some (.box [litI (defB at' fs[i]).2.1, .own 7 3 1 ((highL (raw.getD i []) ((defB at' fs[i]).2.2.take k)).map encI)])), (6, some .row), (7, some .row)] : List (Nat × Option Ob))) (fun k : Nat => k ≤ (defB at' fs[i]).2.2.length) (fun k : Nat => (defB at' fs[i]).2.2.length - k) (0); (conv => lhs; simp only [Nf.lpR, Nf.all, Nat.reduceBEq, reduceAdd, reduceSub]); (all_goals skip))
    · exact Nat.zero_le _
    · exact weak rfl (by (refine ⟨.intE (by first | with_reducible rfl | (first | rfl | (rw [List.take_zero, lowL_nil]; rfl) | (rw [List.take_zero, highL_nil]; rfl))), ?_⟩; (iterate 3 refine ⟨.eq rfl rfl, ?_⟩); refine ⟨.ownE (by first | with_reducible rfl | (first | rfl | (rw [List.take_zero, lowL_nil]; rfl) | (rw [List.take_zero, highL_nil]; rfl))) rfl, ?_⟩; refine ⟨.intE (by first | with_reducible rfl | (first | rfl | (rw [List.take_zero, lowL_nil]; rfl) | (rw [List.take_zero, highL_nil]; rfl))), ?_⟩; (iterate 2 refine ⟨.eq rfl rfl, ?_⟩); refine ⟨.pvE (by first | with_reducible rfl | (first | rfl | (rw [List.take_zero, lowL_nil]; rfl) | (rw [List.take_zero, highL_nil]; rfl))), ?_⟩; exact trivial)) (by (refine ⟨.box _ rfl ?_, ?_⟩; refine ⟨.intE (by first | with_reducible rfl | (first | rfl | (rw [List.take_zero, lowL_nil]; rfl) | (rw [List.take_zero, highL_nil]; rfl))), ?_⟩; refine ⟨.nilownE (by first | rfl | (rw [List.take_zero, lowL_nil]; rfl) | (rw [List.take_zero, highL_nil]; rfl)) rfl rfl, ?_⟩; exact trivial; refine ⟨.box _ rfl ?_, ?_⟩; refine ⟨.intE (by first | with_reducible rfl | (first | rfl | (rw [List.take_zero, lowL_nil]; rfl) | (rw [List.take_zero, highL_nil]; rfl))), ?_⟩; refine ⟨.nilownE (by first | rfl | (rw [List.take_zero, lowL_nil]; rfl) | (rw [List.take_zero, highL_nil]; rfl)) rfl rfl, ?_⟩; exact trivial; (iterate 2 refine ⟨.newrow rfl, ?_⟩); refine ⟨.box _ rfl ?_, ?_⟩; refine ⟨.intE (by first | with_reducible rfl | (first | rfl | (rw [List.take_zero, lowL_nil]; rfl) | (rw [List.take_zero, highL_nil]; rfl))), ?_⟩; refine ⟨.pvE (by first | with_reducible rfl | (first | rfl | (rw [List.take_zero, lowL_nil]; rfl) | (rw [List.take_zero, highL_nil]; rfl))), ?_⟩; exact trivial; refine ⟨.row rfl, ?_⟩; refine ⟨.box _ rfl ?_, ?_⟩; refine ⟨.pvE (by first | with_reducible rfl | (first | rfl | (rw [List.take_zero, lowL_nil]; rfl) | (rw [List.take_zero, highL_nil]; rfl))), ?_⟩; refine ⟨.intE (by first | with_reducible rfl | (first | rfl | (rw [List.take_zero, lowL_nil]; rfl) | (rw [List.take_zero, highL_nil]; rfl))), ?_⟩; (iterate 2 exact trivial))) rfl
    rintro k hk
    have hl1 := lowL_len (raw.getD i []) ((defB at' fs[i]).2.2.take k)
    have hl2 := highL_len (raw.getD i []) ((defB at' fs[i]).2.2.take k)
    rw [List.length_take] at hl1 hl2
    by_cases hlt2 : k < (defB at' fs[i]).2.2.length
    · by_cases hr : i < raw.length
      · by_cases hq : k < raw[i].length
        · have hb : bitU (raw.getD i []) k = raw[i][k] % 4 := by rw [row_at hr]; exact bitU_lt hq
          have hx := hraw _ (List.getElem_mem hr) _ (List.getElem_mem hq)
          have hm := Int.emod_nonneg raw[i][k] (show (4 : Int) ≠ 0 by decide)
          by_cases hc0 : 0 < raw[i][k] % 4
          · by_cases hc1 : 1 < raw[i][k] % 4
            · have hs1 := lowL_snoc (row := raw.getD i []) hlt2
              have hs2 := highL_snoc (row := raw.getD i []) hlt2
              rw [hb] at hs1 hs2
              rw [if_pos (by omega)] at hs1
              rw [if_pos (by omega)] at hs2
              (refine Q192 ?_; (iterate 2 refine Q43 ?_); (focus ((with_reducible apply AOps.index_map); (iterate 7 exact rfl); rotate_left; omega)); refine Q159 ?_; refine zn ?_; refine Q206 ?_; refine zd ?_; refine zc ?_; refine Q279 ?_; (focus ((with_reducible apply AOps.index_map); (iterate 7 exact rfl); rotate_left; omega)); refine zr ?_; refine zm ?_; (focus ((with_reducible apply AOps.index_map); (iterate 7 exact rfl); rotate_left; omega)); refine Q264 ?_; refine zd ?_; refine zc ?_; refine Q162 ?_; show AOps .held _ _ _ [_, _, _, _, _, _, _] _ _; (iterate 2 refine Q39 ?_); refine zm ?_; (focus ((with_reducible apply AOps.index_map); (iterate 7 exact rfl); rotate_left; omega)); refine zr ?_; refine Q7 ?_; intro k_ hk_; refine Q276 ?_; intro g_ hgro_ hw_; refine Q187 ?_; intro g_ hgro_ hw_; (with_reducible apply AOps.appendS); exact rfl; (first | exact .pv rfl | exact .own rfl | exact .nil rfl); (iterate 9 exact rfl); (first | omega | (simp only [List.length_map, List.length_append, List.length_cons, List.length_nil, List.length_drop, List.length_take, List.length_set, chunk_len]; omega)); refine Q169 ?_; intro g_ hgro_; show AOps .held _ _ _ [_] _ _; refine Q209 ?_; intro k_ hk_; refine nz ?_; refine Q60 ?_; intro g_ hgro_ hwt2_; refine Q298 ?_; refine zd ?_; refine zc ?_; refine Q162 ?_; show AOps .held _ _ _ [_, _, _, _, _, _, _] _ _; (iterate 2 refine Q39 ?_); refine zm ?_; (focus ((with_reducible apply AOps.index_map); (iterate 7 exact rfl); rotate_left; omega)); refine zr ?_; refine Q7 ?_; intro k_ hk_; refine Q276 ?_; intro g_ hgro_ hw_; refine Q187 ?_; intro g_ hgro_ hw_; (with_reducible apply AOps.appendS); exact rfl; (first | exact .pv rfl | exact .own rfl | exact .nil rfl); (iterate 9 exact rfl); (first | omega | (simp only [List.length_map, List.length_append, List.length_cons, List.length_nil, List.length_drop, List.length_take, List.length_set, chunk_len]; omega)); refine Q169 ?_; intro g_ hgro_; show AOps .held _ _ _ [_] _ _; refine Q209 ?_; intro k_ hk_; refine nz ?_; refine Q60 ?_; intro g_ hgro_ hwt2_; refine Q35 ?_; refine Q121 ?_; refine Q143 ?_)
              exact Q2
            · have hs1 := lowL_snoc (row := raw.getD i []) hlt2
              have hs2 := highL_snoc (row := raw.getD i []) hlt2
              rw [hb] at hs1 hs2
              rw [if_neg (by omega), List.append_nil] at hs1
              rw [if_pos (by omega)] at hs2
              (refine Q192 ?_; (iterate 2 refine Q43 ?_); (focus ((with_reducible apply AOps.index_map); (iterate 7 exact rfl); rotate_left; omega)); refine Q159 ?_; refine zn ?_; refine Q206 ?_; refine zd ?_; refine zc ?_; refine Q279 ?_; (focus ((with_reducible apply AOps.index_map); (iterate 7 exact rfl); rotate_left; omega)); refine zr ?_; refine zm ?_; (focus ((with_reducible apply AOps.index_map); (iterate 7 exact rfl); rotate_left; omega)); refine Q264 ?_; refine zd ?_; refine zc ?_; refine Q162 ?_; show AOps .held _ _ _ [_, _, _, _, _, _, _] _ _; (iterate 2 refine Q39 ?_); refine zm ?_; (focus ((with_reducible apply AOps.index_map); (iterate 7 exact rfl); rotate_left; omega)); refine zr ?_; refine Q7 ?_; intro k_ hk_; refine Q276 ?_; intro g_ hgro_ hw_; refine Q187 ?_; intro g_ hgro_ hw_; (with_reducible apply AOps.appendS); exact rfl; (first | exact .pv rfl | exact .own rfl | exact .nil rfl); (iterate 9 exact rfl); (first | omega | (simp only [List.length_map, List.length_append, List.length_cons, List.length_nil, List.length_drop, List.length_take, List.length_set, chunk_len]; omega)); refine Q169 ?_; intro g_ hgro_; show AOps .held _ _ _ [_] _ _; refine Q209 ?_; intro k_ hk_; refine nz ?_; refine Q60 ?_; intro g_ hgro_ hwt2_; refine Q298 ?_; refine Q99 ?_)
              exact Q2
          · have hs1 := lowL_snoc (row := raw.getD i []) hlt2
            have hs2 := highL_snoc (row := raw.getD i []) hlt2
            rw [hb] at hs1 hs2
            rw [if_neg (by omega), List.append_nil] at hs1
            rw [if_neg (by omega), List.append_nil] at hs2
            (refine Q192 ?_; (iterate 2 refine Q43 ?_); (focus ((with_reducible apply AOps.index_map); (iterate 7 exact rfl); rotate_left; omega)); refine Q159 ?_; refine zn ?_; refine Q206 ?_; refine zd ?_; refine zc ?_; refine Q279 ?_; (focus ((with_reducible apply AOps.index_map); (iterate 7 exact rfl); rotate_left; omega)); refine zr ?_; refine zm ?_; (focus ((with_reducible apply AOps.index_map); (iterate 7 exact rfl); rotate_left; omega)); refine Q264 ?_; refine Q184 ?_; refine zm ?_; refine AOps.gtrU rfl rfl rfl rfl rfl ?_; refine Q99 ?_)
            exact Q2
        · have hb : bitU (raw.getD i []) k = 1 := by rw [row_at hr]; exact bitU_ge hq
          have hs1 := lowL_snoc (row := raw.getD i []) hlt2
          have hs2 := highL_snoc (row := raw.getD i []) hlt2
          rw [hb] at hs1 hs2
          rw [if_neg (by omega), List.append_nil] at hs1
          rw [if_pos (by omega)] at hs2
          (refine Q192 ?_; (iterate 2 refine Q43 ?_); (focus ((with_reducible apply AOps.index_map); (iterate 7 exact rfl); rotate_left; omega)); refine Q159 ?_; refine zn ?_; refine Q206 ?_; refine Q234 ?_; refine zm ?_; refine AOps.gtrU rfl rfl rfl rfl rfl ?_; refine Q251 ?_; refine Q162 ?_; show AOps .held _ _ _ [_, _, _, _, _, _, _] _ _; (iterate 2 refine Q39 ?_); refine zm ?_; (focus ((with_reducible apply AOps.index_map); (iterate 7 exact rfl); rotate_left; omega)); refine zr ?_; refine Q7 ?_; intro k_ hk_; refine Q276 ?_; intro g_ hgro_ hw_; refine Q187 ?_; intro g_ hgro_ hw_; (with_reducible apply AOps.appendS); exact rfl; (first | exact .pv rfl | exact .own rfl | exact .nil rfl); (iterate 9 exact rfl); (first | omega | (simp only [List.length_map, List.length_append, List.length_cons, List.length_nil, List.length_drop, List.length_take, List.length_set, chunk_len]; omega)); refine Q169 ?_; intro g_ hgro_; show AOps .held _ _ _ [_] _ _; refine Q209 ?_; intro k_ hk_; refine nz ?_; refine Q60 ?_; intro g_ hgro_ hwt2_; refine Q298 ?_; refine Q45 ?_; refine Q29 ?_)
          exact Q2
      · have hb : bitU (raw.getD i []) k = 1 := by rw [row_out hr]; exact bitU_ge (by simp)
        have hs1 := lowL_snoc (row := raw.getD i []) hlt2
        have hs2 := highL_snoc (row := raw.getD i []) hlt2
        rw [hb] at hs1 hs2
        rw [if_neg (by omega), List.append_nil] at hs1
        rw [if_pos (by omega)] at hs2
        (refine Q192 ?_; refine zm ?_; (iterate 7 refine AOps.guardTn rfl rfl rfl rfl rfl rfl (by first | omega | decide) ?_); refine zF ?_; refine Q45 ?_; refine thenD_n ?_; refine Q30 ?_; refine zm ?_; refine AOps.gtrU rfl rfl rfl rfl rfl ?_; refine Q251 ?_; refine Q162 ?_; show AOps .held _ _ _ [_, _, _, _, _, _, _] _ _; (iterate 2 refine Q39 ?_); refine zm ?_; (focus ((with_reducible apply AOps.index_map); (iterate 7 exact rfl); rotate_left; omega)); refine zr ?_; refine Q7 ?_; intro k_ hk_; refine Q276 ?_; intro g_ hgro_ hw_; refine Q187 ?_; intro g_ hgro_ hw_; (with_reducible apply AOps.appendS); exact rfl; (first | exact .pv rfl | exact .own rfl | exact .nil rfl); (iterate 9 exact rfl); (first | omega | (simp only [List.length_map, List.length_append, List.length_cons, List.length_nil, List.length_drop, List.length_take, List.length_set, chunk_len]; omega)); refine Q169 ?_; intro g_ hgro_; show AOps .held _ _ _ [_] _ _; refine Q209 ?_; intro k_ hk_; refine nz ?_; refine Q60 ?_; intro g_ hgro_ hwt2_; refine Q298 ?_; refine Q45 ?_; refine Q29 ?_)
        exact Q2
    · rw [take_all (l := (defB at' fs[i]).2.2) (by omega)]
      (refine Q98 ?_; refine Q39 ?_; refine Q86 ?_; refine zd ?_; refine Q201 ?_; refine thenD_n ?_; refine Q85 ?_; refine zm ?_; (iterate 2 refine Q41 ?_); refine AOps.buildN 115 [0, 2] rfl rfl rfl rfl rfl rfl rfl rfl rfl ?_; refine nz ?_; refine Q235 ?_; refine AOps.frzSt rfl rfl rfl rfl ?_; refine nz ?_; refine AOps.frzSt rfl rfl rfl rfl ?_; refine nz ?_; (with_reducible apply AOps.store_ok); exact rfl; exact rfl; (focus ((repeat (first | exact .nil | apply PvL.cons)); done)); (iterate 8 exact rfl); refine nz ?_; refine AOps.nil ?_; refine Q11 ?_; refine zm ?_; refine zj ?_; refine Q5 ?_)
      exact ⟨i + 1, by omega, by omega, weak rfl (by (refine ⟨.ownE (by first | with_reducible rfl | (first | rfl | (rw [← hmS, List.map_set]; rfl))) rfl, ?_⟩; refine ⟨.intE (by first | with_reducible rfl | (first | rfl | (rw [← hmS, List.map_set]; rfl))), ?_⟩; (iterate 2 refine ⟨.eq rfl rfl, ?_⟩); refine ⟨.pvE (by first | with_reducible rfl | (first | rfl | (rw [← hmS, List.map_set]; rfl))), ?_⟩; exact trivial)) (by (refine ⟨.row rfl, ?_⟩; refine ⟨.box _ rfl ?_, ?_⟩; refine ⟨.pvE (by first | with_reducible rfl | (first | rfl | (rw [← hmS, List.map_set]; rfl))), ?_⟩; refine ⟨.intE (by first | with_reducible rfl | (first | rfl | (rw [← hmS, List.map_set]; rfl))), ?_⟩; (iterate 2 exact trivial))) rfl⟩
  · obtain rfl : i = fs.length := by omega
    have hml2 := madeL_len at' raw fs 0
    rw [mixL_all]
    (refine Q98 ?_; refine Q259 ?_; refine zs ?_; refine zd ?_; refine Q44 ?_; refine Q96 ?_)
    (apply ends_ret; (exact Res.one (.tmp rfl rfl)); (exact Le.own _ _ _ _ rfl))
end Go.Ab
/- Chapter 24: the input variables; symmetries act on them, in plain terms. -/
namespace Go.Ab
open Go Go.Proofs
set_option maxRecDepth 20000
set_option maxHeartbeats 4000000
theorem freeL_mem : ∀ {bs : List BndM} {i : Nat} {p : Int × Int}, p ∈ freeL i bs → ∃ k, ∃ h : k < bs.length, p.1 = ((i + k : Nat) : Int) ∧ p.2 ∈ undL bs[k]
  | [], _, _, h => by cases h
  | x :: bs, i, p, h => by
    rcases List.mem_append.1 h with h | h
    · obtain ⟨t, ht, rfl⟩ := List.mem_map.1 h
      exact ⟨0, by simp, rfl, ht⟩
    · obtain ⟨k, hk, h1, h2⟩ := freeL_mem h
      exact ⟨k + 1, by simpa using hk, by rw [h1]; omega, h2⟩
theorem freeL_mk : ∀ {bs : List BndM} {i k : Nat} (h : k < bs.length) {t : Int}, t ∈ undL bs[k] → (((i + k : Nat) : Int), t) ∈ freeL i bs
  | x :: bs, i, 0, _, t, ht => List.mem_append.2 (.inl (List.mem_map.2 ⟨t, ht, rfl⟩))
  | x :: bs, i, k + 1, h, t, ht => by
    have := freeL_mk (bs := bs) (i := i + 1) (k := k) (by simpa using h) (t := t) ht
    rw [show i + 1 + k = i + (k + 1) by omega] at this
    exact List.mem_append.2 (.inr this)
theorem freeL_nodup : ∀ {bs : List BndM} {i : Nat}, (∀ x ∈ bs, Inc x.2.2) → (freeL i bs).Nodup
  | [], _, _ => List.nodup_nil
  | x :: bs, i, h => by
    show ((undL x).map (fun t => ((i : Int), t)) ++ freeL (i + 1) bs).Nodup
    rw [List.nodup_append]
    refine ⟨?_, freeL_nodup fun y hy => h y (by simp [hy]), ?_⟩
    · refine List.Pairwise.map _ (fun a b hab e => ?_) (diff_inc (b := x.1.2) (h x (by simp)))
      have := congrArg Prod.snd e
      simp only at this
      omega
    · intro a ha b hb e
      obtain ⟨t, _, rfl⟩ := List.mem_map.1 ha
      obtain ⟨k, _, h1, _⟩ := freeL_mem hb
      rw [← e] at h1
      simp only at h1
      omega
abbrev VarT := Int × Int × Int
def selV (o : Int) (n : Nat) : List VarT := (List.range n).map fun i : Nat => ((-1 : Int), (0 : Int), (i : Int) + o)
def selN (st : Nat) : Nat := if 1 < st then st else 0
def stV (fr : List (Int × Int)) (vr : Int → Bool) (s : Nat) : List VarT := (fr.filter fun t => decide (s = 0) || vr t.1).map fun t => ((s : Int), t.1, t.2)
def varsM (o : Int) (st : Nat) (fr : List (Int × Int)) (vr : Int → Bool) : List VarT := selV o (selN st) ++ (List.range st).flatMap (stV fr vr)
theorem mem_sel {o : Int} {n : Nat} {v : VarT} : v ∈ selV o n ↔ v.1 = -1 ∧ v.2.1 = 0 ∧ o ≤ v.2.2 ∧ v.2.2 < o + n := by
  unfold selV
  rw [List.mem_map]
  constructor
  · rintro ⟨i, hi, rfl⟩
    have := List.mem_range.1 hi
    exact ⟨rfl, rfl, by show o ≤ (i : Int) + o; omega, by show (i : Int) + o < o + n; omega⟩
  · rintro ⟨h1, h2, h3, h4⟩
    exact ⟨(v.2.2 - o).toNat, List.mem_range.2 (by omega), Prod.ext h1.symm (Prod.ext h2.symm (by simp only; omega))⟩
theorem mem_st {fr : List (Int × Int)} {vr : Int → Bool} {s : Nat} {v : VarT} : v ∈ stV fr vr s ↔ v.1 = (s : Int) ∧ (v.2.1, v.2.2) ∈ fr ∧ (s = 0 ∨ vr v.2.1 = true) := by
  unfold stV
  rw [List.mem_map]
  constructor
  · rintro ⟨t, ht, rfl⟩
    obtain ⟨h1, h2⟩ := List.mem_filter.1 ht
    rw [Bool.or_eq_true, decide_eq_true_iff] at h2
    exact ⟨rfl, h1, h2⟩
  · rintro ⟨h1, h2, h3⟩
    exact ⟨(v.2.1, v.2.2), List.mem_filter.2 ⟨h2, by rw [Bool.or_eq_true, decide_eq_true_iff]; exact h3⟩, Prod.ext h1.symm rfl⟩
theorem mem_vars {o : Int} {st : Nat} {fr : List (Int × Int)} {vr : Int → Bool} {v : VarT} : v ∈ varsM o st fr vr ↔ (v.1 = -1 ∧ v.2.1 = 0 ∧ o ≤ v.2.2 ∧ v.2.2 < o + selN st) ∨ ((0 ≤ v.1 ∧ v.1 < (st : Int)) ∧ (v.2.1, v.2.2) ∈ fr ∧ (v.1 = 0 ∨ vr v.2.1 = true)) := by
  unfold varsM
  rw [List.mem_append, mem_sel, List.mem_flatMap]
  refine or_congr Iff.rfl ⟨?_, ?_⟩
  · rintro ⟨s, hs, hv⟩
    obtain ⟨h1, h2, h3⟩ := mem_st.1 hv
    have := List.mem_range.1 hs
    exact ⟨by omega, h2, h3.imp (fun h => by omega) id⟩
  · rintro ⟨h1, h2, h3⟩
    exact ⟨v.1.toNat, List.mem_range.2 (by omega), mem_st.2 ⟨by omega, h2, h3.imp (fun h => by omega) id⟩⟩
theorem nodup_flat {α β : Type} {f : α → List β} : ∀ {l : List α}, l.Nodup → (∀ a ∈ l, (f a).Nodup) → (∀ a ∈ l, ∀ b ∈ l, ∀ x, x ∈ f a → x ∈ f b → a = b) → (l.flatMap f).Nodup
  | [], _, _, _ => List.nodup_nil
  | a :: l, h, h1, h2 => by
    obtain ⟨ha, hl⟩ := List.nodup_cons.1 h
    rw [List.flatMap_cons, List.nodup_append]
    refine ⟨h1 a (by simp), nodup_flat hl (fun b hb => h1 b (by simp [hb])) (fun b hb c hc => h2 b (by simp [hb]) c (by simp [hc])), fun x hx y hy e => ?_⟩
    subst e
    obtain ⟨b, hb, hy⟩ := List.mem_flatMap.1 hy
    have := h2 a (by simp) b (by simp [hb]) x hx hy
    subst this
    exact ha hb
theorem vars_nodup (o : Int) (st : Nat) {fr : List (Int × Int)} (vr : Int → Bool) (h : fr.Nodup) : (varsM o st fr vr).Nodup := by
  unfold varsM
  rw [List.nodup_append]
  refine ⟨?_, nodup_flat List.nodup_range (fun s _ => ?_) (fun a _ b _ x hx hy => ?_), fun x hx y hy e => ?_⟩
  · refine List.Pairwise.map _ (fun a b hab e => ?_) (List.nodup_range (n := selN st))
    have := congrArg (fun v : VarT => v.2.2) e
    simp only at this
    omega
  · refine List.Pairwise.map _ (fun a b hab e => hab ?_) (h.filter _)
    have := congrArg (fun v : VarT => v.2) e
    exact this
  · have h1 := (mem_st.1 hx).1
    have h2 := (mem_st.1 hy).1
    omega
  · subst e
    have h1 := (mem_sel.1 hx).1
    obtain ⟨s, _, hs⟩ := List.mem_flatMap.1 hy
    have h2 := (mem_st.1 hs).1
    omega
def actV (n : Nat) (ar : Int → Nat) (p : List Int) (v : VarT) : VarT := if 0 ≤ v.1 then (v.1, v.2.1, imgR n p (ar v.2.1) v.2.2) else v
structure BndOk (n : Nat) (ar : Int → Nat) (bs : List BndM) : Prop where
  low : ∀ (i : Nat) (h : i < bs.length), RanksOk n (ar (i : Int)) bs[i].1.2
  high : ∀ (i : Nat) (h : i < bs.length), RanksOk n (ar (i : Int)) bs[i].2.2
def keepB (n : Nat) (ar : Int → Nat) (p : List Int) (bs : List BndM) : Prop := ∀ (i : Nat) (h : i < bs.length), keepL n p (ar (i : Int)) bs[i].1.2 = true ∧ keepL n p (ar (i : Int)) bs[i].2.2 = true
section sym
variable {n : Nat} {ar : Int → Nat} {bs : List BndM} {srt : Int → Int} {p q : List Int}
theorem free_act (hp : PermA n srt p) (hn : 0 < n) (hb : BndOk n ar bs) (hk : keepB n ar p bs) {f t : Int} (h : (f, t) ∈ freeL 0 bs) : (f, imgR n p (ar f) t) ∈ freeL 0 bs := by
  obtain ⟨k, hk', h1, h2⟩ := freeL_mem h
  simp only [Nat.zero_add] at h1
  obtain ⟨h3, h4⟩ := mem_diff.1 h2
  subst h1
  have := freeL_mk (bs := bs) (i := 0) hk' (t := imgR n p (ar (k : Int)) t) (mem_diff.2 ⟨keep_mem (hb.high k hk').inc (hk k hk').2 h3, fun hm => h4 (keep_back hp hn (hb.low k hk') (hk k hk').1 ((hb.high k hk').rng t h3) hm)⟩)
  simpa using this
theorem free_rng (hb : BndOk n ar bs) {f t : Int} (h : (f, t) ∈ freeL 0 bs) : 0 ≤ t ∧ t < ((n ^ ar f : Nat) : Int) := by
  obtain ⟨k, hk', h1, h2⟩ := freeL_mem h
  simp only [Nat.zero_add] at h1
  subst h1
  exact (hb.high k hk').rng t (mem_diff.1 h2).1
theorem act_mem {o : Int} {st : Nat} {vr : Int → Bool} (hp : PermA n srt p) (hn : 0 < n) (hb : BndOk n ar bs) (hk : keepB n ar p bs) : ∀ v ∈ varsM o st (freeL 0 bs) vr, actV n ar p v ∈ varsM o st (freeL 0 bs) vr := by
  intro v hv
  unfold actV
  split
  · rename_i h0
    rcases mem_vars.1 hv with h | ⟨h1, h2, h3⟩
    · omega
    · exact mem_vars.2 (.inr ⟨h1, free_act hp hn hb hk h2, h3⟩)
  · exact hv
theorem act_inj {o : Int} {st : Nat} {vr : Int → Bool} (hp : PermA n srt p) (hn : 0 < n) (hb : BndOk n ar bs) : ∀ u ∈ varsM o st (freeL 0 bs) vr, ∀ v ∈ varsM o st (freeL 0 bs) vr, actV n ar p u = actV n ar p v → u = v := by
  intro u hu v hv e
  have e1 : u.1 = v.1 := by
    have := congrArg (fun v : VarT => v.1) e
    unfold actV at this
    split at this <;> split at this <;> exact this
  unfold actV at e
  by_cases h0 : 0 ≤ u.1
  · rw [if_pos h0, if_pos (by omega)] at e
    have e2 := congrArg (fun v : VarT => v.2.1) e
    have e3 := congrArg (fun v : VarT => v.2.2) e
    simp only at e2 e3
    rcases mem_vars.1 hu with h | ⟨_, h2, _⟩
    · omega
    rcases mem_vars.1 hv with h | ⟨_, h2', _⟩
    · omega
    rw [← e2] at e3 h2'
    exact Prod.ext e1 (Prod.ext e2 (img_inj hp hn _ (free_rng hb h2) (free_rng hb h2') e3))
  · rw [if_neg h0, if_neg (by omega)] at e
    exact e
end sym
def litV (o : Int) (n : Nat) (ar : Int → Nat) (st : Nat) (vr : Int → Bool) (bs : List BndM) (p : List Int) : List Int := litsL (varsM o st (freeL 0 bs) vr) (actV n ar p)
structure SymP (n : Nat) (srt : Int → Int) (fx : Int → Bool) (ar : Int → Nat) (bs : List BndM) (p : List Int) : Prop where
  perm : PermA n srt p
  fix : ∀ (x : Nat), x < n → fx (x : Int) = true → p.getD x 0 = (x : Int)
  keep : keepB n ar p bs
section grp
variable {n : Nat} {ar : Int → Nat} {bs : List BndM} {srt : Int → Int} {fx : Int → Bool} {p q : List Int}
theorem SymP.inv (hn : 0 < n) (hb : BndOk n ar bs) (hp : SymP n srt fx ar bs p) : SymP n srt fx ar bs (invA p) := by
  refine ⟨hp.perm.inv, fun x hx hf => ?_, fun i h => ⟨keep_inv hp.perm hn (hb.low i h) (hp.keep i h).1, keep_inv hp.perm hn (hb.high i h) (hp.keep i h).2⟩⟩
  have := hp.perm.inv_at hx
  rw [hp.fix x hx hf] at this
  exact this
theorem SymP.id (hn : 0 < n) (hb : BndOk n ar bs) : SymP n srt fx ar bs (idA n) :=
  ⟨.id n srt, fun x hx _ => idA_at hx, fun i h => ⟨keep_id hn (hb.low i h), keep_id hn (hb.high i h)⟩⟩
theorem lit_perm {o : Int} {st : Nat} {vr : Int → Bool} (hn : 0 < n) (hb : BndOk n ar bs) (hp : SymP n srt fx ar bs p) : PermN (varsM o st (freeL 0 bs) vr).length (litV o n ar st vr bs p) :=
  lits_perm (vars_nodup o st vr (freeL_nodup fun x hx => by obtain ⟨i, hi, rfl⟩ := List.getElem_of_mem hx; exact (hb.high i hi).inc)) (act_mem hp.perm hn hb hp.keep) (act_inj hp.perm hn hb)
end grp
end Go.Ab
/- Chapter 24: the variables' numbers, in plain terms. -/
namespace Go.Ab
open Go Go.Proofs
set_option maxRecDepth 20000
set_option maxHeartbeats 4000000
def numF : Nat → List VarT → List (Key3 × Int)
  | _, [] => []
  | i, v :: l => (v, (i : Int) + 1) :: numF (i + 1) l
theorem numF_snoc : ∀ (l : List VarT) (i : Nat) (v : VarT), numF i (l ++ [v]) = numF i l ++ [(v, ((i + l.length : Nat) : Int) + 1)]
  | [], _, _ => rfl
  | u :: l, i, v => by
    show _ :: numF (i + 1) (l ++ [v]) = _ :: (numF (i + 1) l ++ _)
    rw [numF_snoc l (i + 1) v, List.length_cons, show i + 1 + l.length = i + (l.length + 1) by omega]
theorem numF_keys : ∀ (l : List VarT) (i : Nat), (numF i l).map (·.1) = l
  | [], _ => rfl
  | u :: l, i => by
    show u :: (numF (i + 1) l).map (·.1) = u :: l
    rw [numF_keys l (i + 1)]
theorem lookF : ∀ (l : List VarT) (i : Nat) (v : VarT), v ∈ l → lookV (numF i l) v = ((i + l.findIdx (fun u => decide (u = v)) : Nat) : Int) + 1
  | [], _, _, h => by cases h
  | u :: l, i, v, h => by
    show (if v = u then (i : Int) + 1 else lookV (numF (i + 1) l) v) = _
    rw [List.findIdx_cons]
    by_cases e : v = u
    · subst e
      rw [if_pos rfl]
      simp
    · have e2 : decide (u = v) = false := decide_eq_false (fun h => e h.symm)
      rw [if_neg e, e2, lookF l (i + 1) v ((List.mem_cons.1 h).resolve_left e)]
      simp only [cond_false]
      omega
def stP (o : Int) (st : Nat) (fr : List (Int × Int)) (vr : Int → Bool) (s k : Nat) : List VarT := selV o (selN st) ++ (List.range s).flatMap (stV fr vr) ++ stV (fr.take k) vr s
theorem stP_zero (o : Int) (st : Nat) (fr : List (Int × Int)) (vr : Int → Bool) (s : Nat) : stP o st fr vr s 0 = selV o (selN st) ++ (List.range s).flatMap (stV fr vr) := by
  unfold stP stV
  simp
theorem stP_next (o : Int) (st : Nat) (fr : List (Int × Int)) (vr : Int → Bool) (s : Nat) : stP o st fr vr (s + 1) 0 = stP o st fr vr s fr.length := by
  rw [stP_zero]
  unfold stP
  rw [List.range_succ, List.flatMap_append, List.take_length, List.append_assoc]
  simp
theorem stP_start (o : Int) (st : Nat) (fr : List (Int × Int)) (vr : Int → Bool) : stP o st fr vr 0 0 = selV o (selN st) := by
  rw [stP_zero]; simp
theorem stP_end (o : Int) (st : Nat) (fr : List (Int × Int)) (vr : Int → Bool) : stP o st fr vr st 0 = varsM o st fr vr := by
  rw [stP_zero]; rfl
theorem stP_step (o : Int) (st : Nat) {fr : List (Int × Int)} (vr : Int → Bool) (s : Nat) {k : Nat} (h : k < fr.length) : stP o st fr vr s (k + 1) = if s = 0 ∨ vr fr[k].1 = true then stP o st fr vr s k ++ [((s : Int), fr[k].1, fr[k].2)] else stP o st fr vr s k := by
  unfold stP stV
  rw [take_succ_get h, List.filter_append, List.map_append, ← List.append_assoc]
  by_cases hc : s = 0 ∨ vr fr[k].1 = true
  · rw [if_pos hc]
    have : (decide (s = 0) || vr fr[k].1) = true := by rw [Bool.or_eq_true, decide_eq_true_iff]; exact hc
    rw [List.filter_cons, if_pos this]
    simp
  · rw [if_neg hc]
    have : ¬ (decide (s = 0) || vr fr[k].1) = true := by rw [Bool.or_eq_true, decide_eq_true_iff]; exact hc
    rw [List.filter_cons, if_neg this]
    simp
theorem selV_snoc (o : Int) (i : Nat) : selV o (i + 1) = selV o i ++ [(-1, 0, (i : Int) + o)] := by
  unfold selV
  rw [List.range_succ, List.map_append]; rfl
theorem stP_len {o : Int} {st : Nat} {fr : List (Int × Int)} {vr : Int → Bool} {s k : Nat} (hs : s ≤ st) : (stP o st fr vr s k).length ≤ st + (s + 1) * fr.length := by
  unfold stP
  have h1 : ∀ (l : List (Int × Int)) (s : Nat), (stV l vr s).length ≤ l.length := fun l s => by
    unfold stV
    rw [List.length_map]
    exact List.length_filter_le _ _
  have h2 : ∀ s : Nat, ((List.range s).flatMap (stV fr vr)).length ≤ s * fr.length := fun s => by
    induction s with
    | zero => simp
    | succ s ih =>
      rw [List.range_succ, List.flatMap_append, List.length_append, Nat.succ_mul, show [s].flatMap (stV fr vr) = stV fr vr s ++ [] from rfl, List.append_nil]
      have := h1 fr s
      omega
  have h3 : (selV o (selN st)).length ≤ st := by
    unfold selV selN
    simp
    split <;> omega
  have h4 := h2 s
  have h5 := h1 (fr.take k) s
  have h6 : (fr.take k).length ≤ fr.length := by rw [List.length_take]; omega
  rw [List.length_append, List.length_append, Nat.succ_mul]
  omega
theorem stP_sub {o : Int} {st : Nat} {fr : List (Int × Int)} {vr : Int → Bool} (hf : fr.Nodup) {s k : Nat} (hs : s < st) (hk : k < fr.length) (hc : s = 0 ∨ vr fr[k].1 = true) : ((s : Int), fr[k].1, fr[k].2) ∉ stP o st fr vr s k ∧ ((s : Int), fr[k].1, fr[k].2) ∈ varsM o st fr vr := by
  constructor
  · intro h
    unfold stP at h
    rcases List.mem_append.1 h with h | h
    · rcases List.mem_append.1 h with h | h
      · have := (mem_sel.1 h).1
        simp only at this
        omega
      · obtain ⟨s', hs', h⟩ := List.mem_flatMap.1 h
        have h1 := (mem_st.1 h).1
        have h2 := List.mem_range.1 hs'
        simp only at h1
        omega
    · have h2 := (mem_st.1 h).2.1
      simp only at h2
      obtain ⟨j, hj, e⟩ := List.mem_take_iff_getElem.1 h2
      have e2 : fr[j] = fr[k] := e
      have := (List.getElem_inj hf).1 e2
      omega
  · exact mem_vars.2 (.inr ⟨⟨by simp only; omega, by simp only; omega⟩, List.getElem_mem hk, hc.imp (fun h => by simp only; omega) id⟩)
theorem selV_len (o : Int) (n : Nat) : (selV o n).length = n := by simp [selV]
theorem numS (k : Nat) : numF 0 (selV 0 (k + 1)) = numF 0 (selV 0 k) ++ [((-1, 0, (k : Int)), (k : Int) + 1)] := by
  rw [selV_snoc, numF_snoc, selV_len, Nat.zero_add, Int.add_zero]
theorem numS0 : numF 0 (selV 0 0) = [] := rfl
theorem selNew (k : Nat) : ((-1 : Int), (0 : Int), (k : Int)) ∉ (numF 0 (selV 0 k)).map (·.1) := by
  rw [numF_keys]
  intro h
  have := (mem_sel.1 h).2.2.2
  simp only at this
  omega
theorem numP {o : Int} {st : Nat} {fr : List (Int × Int)} {vr : Int → Bool} (s : Nat) {k : Nat} (h : k < fr.length) (hc : s = 0 ∨ vr fr[k].1 = true) : numF 0 (stP o st fr vr s (k + 1)) = numF 0 (stP o st fr vr s k) ++ [(((s : Int), fr[k].1, fr[k].2), ((stP o st fr vr s k).length : Int) + 1)] := by
  rw [stP_step o st vr s h, if_pos hc, numF_snoc, Nat.zero_add]
theorem lenP {o : Int} {st : Nat} {fr : List (Int × Int)} {vr : Int → Bool} (s : Nat) {k : Nat} (h : k < fr.length) (hc : s = 0 ∨ vr fr[k].1 = true) : ((stP o st fr vr s (k + 1)).length : Int) = ((stP o st fr vr s k).length : Int) + 1 := by
  rw [stP_step o st vr s h, if_pos hc, List.length_append]; rfl
theorem stayP {o : Int} {st : Nat} {fr : List (Int × Int)} {vr : Int → Bool} (s : Nat) {k : Nat} (h : k < fr.length) (hc : ¬ (s = 0 ∨ vr fr[k].1 = true)) : stP o st fr vr s (k + 1) = stP o st fr vr s k := by
  rw [stP_step o st vr s h, if_neg hc]
theorem stNew {st : Nat} {fr : List (Int × Int)} {vr : Int → Bool} (hf : fr.Nodup) {s k : Nat} (hs : s < st) (hk : k < fr.length) (hc : s = 0 ∨ vr fr[k].1 = true) : ((s : Int), fr[k].1, fr[k].2) ∉ (numF 0 (stP 0 st fr vr s k)).map (·.1) := by
  rw [numF_keys]
  exact (stP_sub hf hs hk hc).1
def outL (V : List VarT) (f : VarT → VarT) (U : List VarT) : List Int := U.map fun v => lookV (numF 0 V) (f v)
theorem outL_snoc (V : List VarT) (f : VarT → VarT) (U : List VarT) (v : VarT) : outL V f (U ++ [v]) = outL V f U ++ [lookV (numF 0 V) (f v)] := by simp [outL]
theorem outL_all {V : List VarT} {f : VarT → VarT} (h : ∀ v ∈ V, f v ∈ V) : outL V f V = litsL V f := by
  unfold outL litsL
  refine List.map_congr_left fun v hv => ?_
  rw [lookF V 0 (f v) (h v hv), Nat.zero_add]
theorem outS (V : List VarT) (f : VarT → VarT) (hf : ∀ v : VarT, v.1 < 0 → f v = v) (k : Nat) : outL V f (selV 0 (k + 1)) = outL V f (selV 0 k) ++ [lookV (numF 0 V) (-1, 0, (k : Int))] := by
  rw [selV_snoc, outL_snoc, Int.add_zero, hf _ (by show (-1 : Int) < 0; decide)]
theorem outS0 (V : List VarT) (f : VarT → VarT) : outL V f (selV 0 0) = [] := rfl
theorem outP {o : Int} {st : Nat} {fr : List (Int × Int)} {vr : Int → Bool} (V : List VarT) (f : VarT → VarT) (s : Nat) {k : Nat} (h : k < fr.length) (hc : s = 0 ∨ vr fr[k].1 = true) : outL V f (stP o st fr vr s (k + 1)) = outL V f (stP o st fr vr s k) ++ [lookV (numF 0 V) (f ((s : Int), fr[k].1, fr[k].2))] := by
  rw [stP_step o st vr s h, if_pos hc, outL_snoc]
theorem outL_len (V : List VarT) (f : VarT → VarT) (U : List VarT) : (outL V f U).length = U.length := by simp [outL]
end Go.Ab
/- Chapter 24: images of ranks and relations: the program's Rel, walked. -/
namespace Go.Ab
open Go Go.Proofs
open Nat (reduceAdd reduceSub)
set_option maxRecDepth 20000
set_option maxHeartbeats 4000000
abbrev pwI (n i : Nat) : Int := ((n ^ i : Nat) : Int)
theorem pw_b {n i : Nat} (h : n ≤ 12) (hi : i ≤ 3) (hn : 0 < n) : 1 ≤ pwI n i ∧ pwI n i ≤ 1728 := by
  have h1 := Nat.pow_le_pow_left h i
  have h2 : 12 ^ i ≤ 12 ^ 3 := Nat.pow_le_pow_right (by omega) hi
  have h3 : 0 < n ^ i := Nat.pow_pos hn
  simp only [pwI]
  omega
theorem imgR_snoc (n : Nat) (p : List Int) : ∀ (i : Nat) (t : Int), imgR n p (i + 1) t = imgR n p i t + p.getD (t / pwI n i % (n : Int)).toNat 0 * pwI n i
  | 0, t => by simp [imgR, pwI]
  | i + 1, t => by
    show p.getD (t % (n : Int)).toNat 0 + (n : Int) * imgR n p (i + 1) (t / (n : Int)) = (p.getD (t % (n : Int)).toNat 0 + (n : Int) * imgR n p i (t / (n : Int))) + _
    rw [imgR_snoc n p i (t / (n : Int)), Int.ediv_ediv_of_nonneg (by omega), show (n : Int) * pwI n i = pwI n (i + 1) from (pow_succ_cast n i).symm, Int.mul_add, Int.mul_left_comm, show (n : Int) * pwI n i = pwI n (i + 1) from (pow_succ_cast n i).symm, Int.add_assoc]
attribute [local irreducible] AW AOps thenD inBlockD AR iterEnds roundEndsN inlEnds noGotoD imgR
theorem rank_fn {srt : Int → Int} (p : List Int) (ar : Nat) (t : Int) (hp : PermA p.length srt p) (hn : 0 < p.length) (hl : p.length ≤ 12) (ha : ar ≤ 3) (ht : 0 ≤ t ∧ t ≤ 1000000) :
    Fn Tryz.prog 93 [.agg [.pv (ints p), litI ar], litI t] (litI (imgR p.length p ar t)) := by
  refine Fn.enter (n := 34) Tryz.func93 rfl rfl rfl rfl rfl (by decide) fun g hro_ hwt_ => ?_; (try refine nz ?_)
  (refine Q64 ?_; refine Q51 ?_; refine AOps.fieldAddrN 153 0 0 rfl rfl rfl rfl ?_; refine zb ?_; refine zn ?_; refine Q51 ?_; (iterate 2 refine za ?_); refine zd ?_; refine Q30 ?_; refine AOps.fieldAddrN 153 1 1 rfl rfl rfl rfl ?_; refine zb ?_; refine Q226 ?_)
  (refine nz ?_; apply AW.loopR [12, 5, 4, 2] [0] (fun i : Nat => ([(13, litI i), (1, litI (t / pwI p.length i)), (6, litI (imgR p.length p i t)), (7, litI (pwI p.length i))] : List (Nat × AV))) (fun i : Nat => ([] : List (Nat × Option Ob))) (fun i : Nat => i ≤ ar) (fun i : Nat => ar - i) (0); (conv => lhs; simp only [Nf.lpR, Nf.all, Nat.reduceBEq, reduceAdd, reduceSub]); (all_goals skip))
  · exact Nat.zero_le _
  · exact weak rfl (by (refine ⟨.intE (by first | with_reducible rfl | (first | rfl | (simp [imgR, pwI]; rfl) | simp [imgR, pwI])), ?_⟩; refine ⟨.intE (by first | with_reducible rfl | (first | rfl | (simp [imgR, pwI]; rfl) | simp [imgR, pwI])), ?_⟩; refine ⟨.intE (by first | with_reducible rfl | (first | rfl | (simp [imgR, pwI]; rfl) | simp [imgR, pwI])), ?_⟩; refine ⟨.intE (by first | with_reducible rfl | (first | rfl | (simp [imgR, pwI]; rfl) | simp [imgR, pwI])), ?_⟩; refine ⟨.intE (by first | with_reducible rfl | (first | rfl | (simp [imgR, pwI]; rfl) | simp [imgR, pwI])), ?_⟩; refine ⟨.intE (by first | with_reducible rfl | (first | rfl | (simp [imgR, pwI]; rfl) | simp [imgR, pwI])), ?_⟩; refine ⟨.intE (by first | with_reducible rfl | (first | rfl | (simp [imgR, pwI]; rfl) | simp [imgR, pwI])), ?_⟩; refine ⟨.eq rfl rfl, ?_⟩; exact trivial)) (by (refine ⟨.box _ rfl ?_, ?_⟩; refine ⟨.pvE (by first | with_reducible rfl | (first | rfl | (simp [imgR, pwI]; rfl) | simp [imgR, pwI])), ?_⟩; refine ⟨.intE (by first | with_reducible rfl | (first | rfl | (simp [imgR, pwI]; rfl) | simp [imgR, pwI])), ?_⟩; (iterate 2 exact trivial))) rfl
  rintro i hi
  by_cases hlt : i < ar
  · have hS := pw_b (n := p.length) (i := i) hl (by omega) hn
    have hS2 := pw_b (n := p.length) (i := i + 1) hl (by omega) hn
    have hsn := imgR_snoc p.length p i t
    have hT0 : 0 ≤ t / pwI p.length i := Int.ediv_nonneg ht.1 (by omega)
    have hT1 : t / pwI p.length i ≤ t := Int.ediv_le_self _ ht.1
    have hT2 : t / pwI p.length (i + 1) = t / pwI p.length i / (p.length : Int) := by
      rw [Int.ediv_ediv_of_nonneg (by omega), Int.mul_comm, ← pow_succ_cast]
    have hSn : pwI p.length (i + 1) = pwI p.length i * (p.length : Int) := by
      rw [Int.mul_comm]; exact pow_succ_cast _ _
    have hb := img_rng hp hn i t
    have hO : 0 ≤ imgR p.length p i t ∧ imgR p.length p i t < pwI p.length i := hb
    rw [hSn] at hS2
    clear hb
    generalize imgR p.length p i t = O at hO hsn ⊢
    generalize t / pwI p.length i = T at hT0 hT1 hT2 hsn ⊢
    generalize pwI p.length i = S at hS hSn hS2 hO hsn ⊢
    have hm := mod_lt hn T
    have hm0 : 0 ≤ T % (p.length : Int) := Int.emod_nonneg _ (by omega)
    have hm1 : T % (p.length : Int) < (p.length : Int) := Int.emod_lt_of_pos _ (by omega)
    have hd0 : 0 ≤ T / (p.length : Int) := Int.ediv_nonneg hT0 (by omega)
    rw [getD_of hm] at hsn
    have hx := hp.rng _ (List.getElem_mem hm)
    have hM : 0 ≤ p[(T % (p.length : Int)).toNat] * S ∧ p[(T % (p.length : Int)).toNat] * S ≤ 12 * 1728 := ⟨Int.mul_nonneg hx.1 (by omega), Int.mul_le_mul (by omega) hS.2 (by omega) (by omega)⟩
    (refine Q52 ?_; refine Q3 ?_; refine zo ?_; (with_reducible apply AW.regionQ); exact rfl; exact rfl; kernel_rfl; (with_reducible assumption); refine zm ?_; refine AOps.fieldAddrN 153 0 0 rfl rfl rfl rfl ?_; refine zb ?_; (iterate 2 refine zm ?_); refine AOps.remE rfl rfl rfl rfl rfl (by omega) ?_; (focus ((with_reducible apply AOps.index_mapI); (iterate 7 exact rfl); omega; rotate_left; (first | omega | exact Nat.zero_lt_one | exact (by simp)))); refine zr ?_; refine zm ?_; refine Q240 ?_; refine za ?_; refine AOps.nil ?_; refine Q110 ?_)
    exact ⟨i + 1, by omega, by omega, weak rfl (by (refine ⟨.intE (by first | with_reducible rfl | (first | rfl | (rw [hT2]) | (rw [hsn]) | (rw [hSn]))), ?_⟩; refine ⟨.intE (by first | with_reducible rfl | (first | rfl | (rw [hT2]) | (rw [hsn]) | (rw [hSn]))), ?_⟩; refine ⟨.intE (by first | with_reducible rfl | (first | rfl | (rw [hT2]) | (rw [hsn]) | (rw [hSn]))), ?_⟩; refine ⟨.intE (by first | with_reducible rfl | (first | rfl | (rw [hT2]) | (rw [hsn]) | (rw [hSn]))), ?_⟩; refine ⟨.intE (by first | with_reducible rfl | (first | rfl | (rw [hT2]) | (rw [hsn]) | (rw [hSn]))), ?_⟩; refine ⟨.intE (by first | with_reducible rfl | (first | rfl | (rw [hT2]) | (rw [hsn]) | (rw [hSn]))), ?_⟩; refine ⟨.intE (by first | with_reducible rfl | (first | rfl | (rw [hT2]) | (rw [hsn]) | (rw [hSn]))), ?_⟩; refine ⟨.eq rfl rfl, ?_⟩; exact trivial)) (by (refine ⟨.box _ rfl ?_, ?_⟩; refine ⟨.pvE (by first | with_reducible rfl | (first | rfl | (rw [hT2]) | (rw [hsn]) | (rw [hSn]))), ?_⟩; refine ⟨.intE (by first | with_reducible rfl | (first | rfl | (rw [hT2]) | (rw [hsn]) | (rw [hSn]))), ?_⟩; (iterate 2 exact trivial))) rfl⟩
  · obtain rfl : i = ar := by omega
    (refine Q52 ?_; refine Q44 ?_; refine zm ?_; refine Q42 ?_)
    (apply ends_ret; (exact Res.one (.tmp rfl rfl)); (refine Le.litI ?_; (rfl)))
end Go.Ab
/- Chapter 24: the program's image of a relation, walked. -/
namespace Go.Ab
open Go Go.Proofs
open Nat (reduceAdd reduceSub)
set_option maxRecDepth 20000
set_option maxHeartbeats 4000000
attribute [local irreducible] AW AOps thenD inBlockD AR iterEnds roundEndsN inlEnds noGotoD imgR sortL
theorem pRel_fn {srt : Int → Int} (at' : List Int) (st : Int) (p : List Int) (ar : Nat) (ts : List Int) (hp : PermA p.length srt p) (hn : 0 < p.length) (hl : p.length ≤ 12) (ha : ar ≤ 3) (ht : ∀ t ∈ ts, 0 ≤ t ∧ t ≤ 1000000) (hts : ts.length ≤ 100000) :
    Fn Tryz.prog 49 [scp at' st, .pv (ints p), relA ((ar : Int), ts)] (relA ((ar : Int), sortL (ts.map (imgR p.length p ar)))) := by
  have hr := fun t (h : t ∈ ts) => rank_fn p ar t hp hn hl ha (ht t h)
  refine Fn.enter (n := 24) Tryz.func49 rfl rfl rfl rfl rfl (by decide) fun g hro_ hwt_ => ?_; (try refine nz ?_)
  (refine Q105 ?_; refine Q9 ?_; refine Q326 ?_; refine zm ?_; refine Q115 ?_; refine AOps.buildN 153 [0, 1] rfl rfl rfl rfl rfl rfl rfl rfl rfl ?_; refine nz ?_; refine AOps.makeFunc_f1 rfl rfl rfl ?_; refine AOps.assign rfl rfl rfl ?_; refine nz ?_; refine Q326 ?_; refine Q39 ?_; refine AOps.move_clo rfl rfl rfl ?_; (with_reducible apply AOps.inline (hf := Tryz.func94)); (with_reducible assumption); (iterate 10 exact rfl); intro g_ hro_ hwt_; refine nz ?_; refine Q335 ?_; refine zn ?_; refine AOps.makeSlice0 rfl rfl rfl rfl rfl rfl rfl rfl (by omega) ?_; refine nz ?_; refine Q31 ?_; refine Q30 ?_; refine zm ?_; refine zn ?_; refine Q226 ?_)
  (refine nz ?_; apply AW.loopR [12, 11, 9, 4, 0, 1, 1016, 1015, 1014, 1007, 1006, 1005] [2, 1, 0] (fun k : Nat => ([(13, litI k), (5, .own 3 3 1 (((ts.take k).map (imgR p.length p ar)).map nI))] : List (Nat × AV))) (fun k : Nat => ([(3, some .row)] : List (Nat × Option Ob))) (fun k : Nat => k ≤ ts.length) (fun k : Nat => ts.length - k) (0); (conv => lhs; simp only [Nf.lpR, Nf.all, Nat.reduceBEq, reduceAdd, reduceSub]); (all_goals skip))
  · exact Nat.zero_le _
  · exact weak rfl (by (refine ⟨.eq rfl rfl, ?_⟩; (iterate 13 refine ⟨.eq rfl rfl, ?_⟩); exact trivial)) (by (refine ⟨.row rfl, ?_⟩; refine ⟨.box _ rfl ?_, ?_⟩; (iterate 2 refine ⟨.eq rfl rfl, ?_⟩); exact trivial; refine ⟨.box _ rfl ?_, ?_⟩; (iterate 2 refine ⟨.eq rfl rfl, ?_⟩); exact trivial; refine ⟨.box _ rfl ?_, ?_⟩; (iterate 2 refine ⟨.eq rfl rfl, ?_⟩); (iterate 2 exact trivial))) rfl
  rintro k hk
  by_cases hlt : k < ts.length
  · have h1 := hr ts[k] (List.getElem_mem hlt)
    have hs := take_succ_get hlt
    (refine Q181 ?_; (focus ((with_reducible apply AOps.index_map); (iterate 7 exact rfl); rotate_left; omega)); refine zr ?_; refine Q5 ?_; refine Q85 ?_; refine AOps.move_clo rfl rfl rfl ?_; refine zm ?_; refine zC (h1) ?_; refine Q50 ?_; (with_reducible apply AOps.appendS); exact rfl; (first | exact .pv rfl | exact .own rfl | exact .nil rfl); (iterate 9 exact rfl); (first | omega | (simp only [List.length_map, List.length_append, List.length_cons, List.length_nil, List.length_drop, List.length_take, List.length_set, chunk_len]; omega)); refine nz ?_; refine AOps.assign_own rfl rfl rfl ?_; refine AOps.nil ?_; refine Q110 ?_)
    exact ⟨k + 1, by omega, by omega, weak rfl (by (refine ⟨.intE (by first | with_reducible rfl | (first | rfl | (rw [hs, List.map_append, List.map_append]; rfl))), ?_⟩; refine ⟨.ownE (by first | with_reducible rfl | (first | rfl | (rw [hs, List.map_append, List.map_append]; rfl))) rfl, ?_⟩; refine ⟨.intE (by first | with_reducible rfl | (first | rfl | (rw [hs, List.map_append, List.map_append]; rfl))), ?_⟩; refine ⟨.pvE (by first | with_reducible rfl | (first | rfl | (rw [hs, List.map_append, List.map_append]; rfl))), ?_⟩; refine ⟨.intE (by first | with_reducible rfl | (first | rfl | (rw [hs, List.map_append, List.map_append]; rfl))), ?_⟩; refine ⟨.eq rfl rfl, ?_⟩; refine ⟨.pvE (by first | with_reducible rfl | (first | rfl | (rw [hs, List.map_append, List.map_append]; rfl))), ?_⟩; (iterate 2 refine ⟨.eq rfl rfl, ?_⟩); refine ⟨.pvE (by first | with_reducible rfl | (first | rfl | (rw [hs, List.map_append, List.map_append]; rfl))), ?_⟩; (iterate 4 refine ⟨.eq rfl rfl, ?_⟩); exact trivial)) (by (refine ⟨.row rfl, ?_⟩; refine ⟨.box _ rfl ?_, ?_⟩; refine ⟨.intE (by first | with_reducible rfl | (first | rfl | (rw [hs, List.map_append, List.map_append]; rfl))), ?_⟩; refine ⟨.eq rfl rfl, ?_⟩; exact trivial; refine ⟨.box _ rfl ?_, ?_⟩; refine ⟨.intE (by first | with_reducible rfl | (first | rfl | (rw [hs, List.map_append, List.map_append]; rfl))), ?_⟩; refine ⟨.pvE (by first | with_reducible rfl | (first | rfl | (rw [hs, List.map_append, List.map_append]; rfl))), ?_⟩; exact trivial; refine ⟨.box _ rfl ?_, ?_⟩; refine ⟨.pvE (by first | with_reducible rfl | (first | rfl | (rw [hs, List.map_append, List.map_append]; rfl))), ?_⟩; refine ⟨.intE (by first | with_reducible rfl | (first | rfl | (rw [hs, List.map_append, List.map_append]; rfl))), ?_⟩; (iterate 2 exact trivial))) rfl⟩
  · rw [take_all (l := ts) (by omega)]
    generalize ts.map (imgR p.length p ar) = yl
    (refine Q52 ?_; refine Q44 ?_; refine Q96 ?_; refine inlEnds_rown rfl rfl ?_; refine Q324 ?_; (try refine nz ?_); refine AOps.rowC (sort_rowC) [18, 8, 17] rfl ⟨rfl, rfl, rfl, trivial⟩ rfl rfl rfl ?_; (conv => rhs; simp only [Nf.rwR, Nf.all, Nat.reduceBEq, reduceAdd, reduceSub]); refine Q326 ?_; refine Q115 ?_; refine AOps.move_own rfl rfl rfl ?_; refine AOps.buildN 105 [0, 1] rfl rfl rfl rfl rfl rfl rfl rfl rfl ?_; refine nz ?_; refine Q62 ?_; refine zd ?_; refine AW.ret ?_)
    (apply ends_ret; (exact Res.one (.cell rfl rfl rfl rfl)); (refine Le.aggL ?_; refine LeL.cons ?_ ?_; (with_reducible exact Le.pv _); refine LeL.cons ?_ ?_; exact Le.own _ _ _ _ rfl; exact LeL.nil))
end Go.Ab
/- Chapter 24: the induced permutation, walked. -/
namespace Go.Ab
open Go Go.Proofs Go.RowKit
open Nat (reduceAdd reduceSub)
set_option maxRecDepth 20000
set_option maxHeartbeats 4000000
def arF (fs : List FieldM) (f : Int) : Nat := (fs.getD f.toNat ⟨ByteArray.empty, [], false⟩).sorts.length
def vrF (fs : List FieldM) (f : Int) : Bool := (fs.getD f.toNat ⟨ByteArray.empty, [], false⟩).var
attribute [local irreducible] AW AOps thenD inBlockD AR iterEnds roundEndsN inlEnds noGotoD imgR selV stP varsM freeL numF lookV outL actV
structure LitOk (s : SpecM) (st : Nat) (bs : List BndM) (p : List Int) : Prop where
  stb : 1 ≤ st ∧ st ≤ 4
  nb : bs.length = s.fields.length ∧ bs.length ≤ 10
  sm : ∀ x ∈ bs, x.1.2.length ≤ 2000 ∧ x.2.2.length ≤ 2000 ∧ Inc x.1.2
  hi : ∀ x ∈ bs, Inc x.2.2
  rk : ∀ t ∈ freeL 0 bs, 0 ≤ t.2 ∧ t.2 ≤ 1000000
  ar : ∀ f ∈ s.fields, 1 ≤ f.sorts.length ∧ f.sorts.length ≤ 3
  pl : 0 < p.length ∧ p.length ≤ 12
  pa : ∃ srt, PermA p.length srt p
  mem : ∀ v ∈ varsM 0 st (freeL 0 bs) (vrF s.fields), actV p.length (arF s.fields) p v ∈ varsM 0 st (freeL 0 bs) (vrF s.fields)
theorem sortL_one (x : Int) : sortL [x] = [x] := by simp [sortL]
theorem lit_frl {s : SpecM} {st : Nat} {bs : List BndM} {p : List Int} (h : LitOk s st bs p) : (freeL 0 bs).length ≤ 1000000 := by
  have h1 := freeL_len bs 0 bs.length fun x hx => Nat.le_trans (h.sm x hx).2.1 (by omega)
  rw [List.take_length] at h1
  have := h.nb.2
  omega
attribute [local irreducible] sortL
theorem literals_fn (s : SpecM) (at' : List Int) (st : Nat) (bs : List BndM) (p : List Int) (h : LitOk s st bs p) :
    Fn Tryz.prog 18 [spc s, scp at' (st : Int), .pv (bnds bs), .pv (ints p)] (.pv (ints (litV 0 p.length (arF s.fields) st (vrF s.fields) bs p))) := by
  obtain ⟨so, fs, pr, fa⟩ := s
  simp only at *
  have hst1 := h.stb.1
  have hst2 := h.stb.2
  have hfree := free_fn bs (by have := h.nb.2; omega) (fun x hx => by have := h.sm x hx; exact ⟨by omega, by omega, this.2.2⟩)
  refine Fn.enter (n := 61) Tryz.func18 rfl rfl rfl rfl rfl (by decide) fun g hro_ hwt_ => ?_; (try refine nz ?_)
  (refine Q105 ?_; refine Q15 ?_; refine Q51 ?_; refine AOps.makeCnt (t := 99) rfl ?_; refine nz ?_; (iterate 2 refine Q9 ?_); refine Q35 ?_; refine nz ?_; refine Q35 ?_; refine nz ?_; refine zd ?_; refine Q46 ?_; refine Q41 ?_; refine Q202 ?_; (with_reducible apply AOps.inline (hf := Tryz.func48)); (with_reducible assumption); (iterate 10 exact rfl); intro g_ hro_ hwt_; refine nz ?_; refine Q105 ?_; refine Q15 ?_; refine Q51 ?_; refine AOps.makeFunc_3 rfl rfl rfl rfl rfl rfl rfl ?_; refine Q203 ?_)
  refine AW.rangeFuncUH (ps := [20]) (by assumption) (by assumption) rfl rfl Tryz.func91 rfl rfl rfl rfl rfl rfl (by decide) ?_
  intro gB tm0 l0 ps0 asg0 body0 hcode0 hroB hwtB hheld0 hupB htm0
  have htm0' : tm0.size = 61 := htm0
  refine AW.cut (δc := { n := 61, env := [(0, .yld 9), (1, .ptr 7 0), (2, .ptr 8 0), (3, .ptr 6 0), (1010, .ptr 5 0), (1009, .ptr 4 0), (1007, .ptr 2 0), (1005, .ptr 1 0), (1004, .ptr 0 0), (1002, .pv (bnds bs))], objs := [(3, some (.mp (mpV (numF 0 (selV 0 (selN st)))))), (5, some (.box [litI (selN st : Nat)])), (9, some (.loop l0 tm0 ps0 asg0 body0 .ready)), (8, some (.box [.pv (bnds bs)])), (7, some (.box [.pv (ints at'), litI st])), (6, some (.box [.pv (.slice 2 (so.map encSo)), .pv (.slice 3 (fs.map encF)), slv pr, slv fa])), (4, some (.box [.mapr 3])), (2, some (.box [.pv (ints p)])), (1, some (.box [.pv (ints at'), litI st])), (0, some (.box [.pv (.slice 2 (so.map encSo)), .pv (.slice 3 (fs.map encF)), slv pr, slv fa]))], nx := 10 }) ?_ ?_
  · by_cases h1 : 1 < st
    · have hsn : selN st = st := if_pos h1
      rw [hsn]
      (refine Q4 ?_; refine Q258 ?_; refine Q83 ?_; refine Q88 ?_; refine Q226 ?_)
      (refine nz ?_; apply AW.loopR [14, 0, 1, 2, 3, 1010, 1009, 1007, 1005, 1004, 1002, 1003] [9, 8, 7, 6, 4, 2, 1, 0] (fun k : Nat => ([(15, litI k)] : List (Nat × AV))) (fun k : Nat => ([(3, some (.mp (mpV (numF 0 (selV 0 k))))), (5, some (.box [litI k]))] : List (Nat × Option Ob))) (fun k : Nat => k ≤ st) (fun k : Nat => st - k) (0); (conv => lhs; simp only [Nf.lpR, Nf.all, Nat.reduceBEq, reduceAdd, reduceSub]); (all_goals skip))
      · exact Nat.zero_le _
      · exact weak rfl (by (refine ⟨.intE (by first | with_reducible rfl | (first | rfl)), ?_⟩; refine ⟨.intE (by first | with_reducible rfl | (first | rfl)), ?_⟩; (iterate 9 refine ⟨.eq rfl rfl, ?_⟩); (iterate 2 refine ⟨.pvE (by first | with_reducible rfl | (first | rfl)), ?_⟩); exact trivial)) (by (refine ⟨WO.vals0 rfl numS0, ?_⟩; refine ⟨.box _ rfl ?_, ?_⟩; refine ⟨.intE (by first | with_reducible rfl | (first | rfl)), ?_⟩; exact trivial; refine ⟨.loop rfl, ?_⟩; refine ⟨.box _ rfl ?_, ?_⟩; refine ⟨.pvE (by first | with_reducible rfl | (first | rfl)), ?_⟩; exact trivial; refine ⟨.box _ rfl ?_, ?_⟩; refine ⟨.pvE (by first | with_reducible rfl | (first | rfl)), ?_⟩; refine ⟨.intE (by first | with_reducible rfl | (first | rfl)), ?_⟩; exact trivial; refine ⟨.box _ rfl ?_, ?_⟩; (iterate 2 refine ⟨.pvE (by first | with_reducible rfl | (first | rfl)), ?_⟩); (iterate 2 refine ⟨.eq rfl rfl, ?_⟩); exact trivial; refine ⟨.box _ rfl ?_, ?_⟩; refine ⟨.eq rfl rfl, ?_⟩; exact trivial; refine ⟨.box _ rfl ?_, ?_⟩; refine ⟨.pvE (by first | with_reducible rfl | (first | rfl)), ?_⟩; exact trivial; refine ⟨.box _ rfl ?_, ?_⟩; refine ⟨.pvE (by first | with_reducible rfl | (first | rfl)), ?_⟩; refine ⟨.intE (by first | with_reducible rfl | (first | rfl)), ?_⟩; exact trivial; refine ⟨.box _ rfl ?_, ?_⟩; (iterate 2 refine ⟨.pvE (by first | with_reducible rfl | (first | rfl)), ?_⟩); (iterate 2 refine ⟨.eq rfl rfl, ?_⟩); (iterate 2 exact trivial))) rfl
      rintro k hk
      by_cases hlt : k < st
      · have hnum := numS k
        have hnew := selNew k
        (refine Q338 ?_; (with_reducible apply AOps.yieldN0 hcode0 hwtB hheld0 htm0'); (iterate 8 exact rfl); intro gR hroR_ hwtR hupR; refine Q256 ?_; refine And.intro (show isLp _ _ _ _ from ⟨_, _, _, _, rfl⟩) ?_; refine Q130 ?_; (with_reducible apply roundEndsN_n); exact ⟨_, _, _, _, rfl⟩; refine nz ?_; refine Q267 ?_; refine Q110 ?_)
        exact ⟨k + 1, by omega, by omega, weak rfl (by (refine ⟨.intE (by first | with_reducible rfl | (first | rfl)), ?_⟩; refine ⟨.intE (by first | with_reducible rfl | (first | rfl)), ?_⟩; (iterate 9 refine ⟨.eq rfl rfl, ?_⟩); (iterate 2 refine ⟨.pvE (by first | with_reducible rfl | (first | rfl)), ?_⟩); exact trivial)) (by (refine ⟨WO.valsE rfl hnum.symm, ?_⟩; refine ⟨.box _ rfl ?_, ?_⟩; refine ⟨.intE (by first | with_reducible rfl | (first | rfl)), ?_⟩; exact trivial; refine ⟨.loop rfl, ?_⟩; refine ⟨.box _ rfl ?_, ?_⟩; refine ⟨.pvE (by first | with_reducible rfl | (first | rfl)), ?_⟩; exact trivial; refine ⟨.box _ rfl ?_, ?_⟩; refine ⟨.pvE (by first | with_reducible rfl | (first | rfl)), ?_⟩; refine ⟨.intE (by first | with_reducible rfl | (first | rfl)), ?_⟩; exact trivial; refine ⟨.box _ rfl ?_, ?_⟩; (iterate 2 refine ⟨.pvE (by first | with_reducible rfl | (first | rfl)), ?_⟩); (iterate 2 refine ⟨.eq rfl rfl, ?_⟩); exact trivial; refine ⟨.box _ rfl ?_, ?_⟩; refine ⟨.eq rfl rfl, ?_⟩; exact trivial; refine ⟨.box _ rfl ?_, ?_⟩; refine ⟨.pvE (by first | with_reducible rfl | (first | rfl)), ?_⟩; exact trivial; refine ⟨.box _ rfl ?_, ?_⟩; refine ⟨.pvE (by first | with_reducible rfl | (first | rfl)), ?_⟩; refine ⟨.intE (by first | with_reducible rfl | (first | rfl)), ?_⟩; exact trivial; refine ⟨.box _ rfl ?_, ?_⟩; (iterate 2 refine ⟨.pvE (by first | with_reducible rfl | (first | rfl)), ?_⟩); (iterate 2 refine ⟨.eq rfl rfl, ?_⟩); (iterate 2 exact trivial))) rfl⟩
      · obtain rfl : k = st := by omega
        (refine Q52 ?_; refine Q201 ?_; refine onlyN_n ?_)
        show Weak _ _ _
        exact weak rfl (by (refine ⟨.eq rfl rfl, ?_⟩; (iterate 8 refine ⟨.eq rfl rfl, ?_⟩); refine ⟨.pvE (by first | with_reducible rfl | (first | rfl)), ?_⟩; exact trivial)) (by (refine ⟨WO.vals rfl, ?_⟩; refine ⟨.box _ rfl ?_, ?_⟩; refine ⟨.intE (by first | with_reducible rfl | (first | rfl)), ?_⟩; exact trivial; refine ⟨.loop rfl, ?_⟩; refine ⟨.box _ rfl ?_, ?_⟩; refine ⟨.pvE (by first | with_reducible rfl | (first | rfl)), ?_⟩; exact trivial; refine ⟨.box _ rfl ?_, ?_⟩; refine ⟨.pvE (by first | with_reducible rfl | (first | rfl)), ?_⟩; refine ⟨.intE (by first | with_reducible rfl | (first | rfl)), ?_⟩; exact trivial; refine ⟨.box _ rfl ?_, ?_⟩; (iterate 2 refine ⟨.pvE (by first | with_reducible rfl | (first | rfl)), ?_⟩); (iterate 2 refine ⟨.eq rfl rfl, ?_⟩); exact trivial; refine ⟨.box _ rfl ?_, ?_⟩; refine ⟨.eq rfl rfl, ?_⟩; exact trivial; refine ⟨.box _ rfl ?_, ?_⟩; refine ⟨.pvE (by first | with_reducible rfl | (first | rfl)), ?_⟩; exact trivial; refine ⟨.box _ rfl ?_, ?_⟩; refine ⟨.pvE (by first | with_reducible rfl | (first | rfl)), ?_⟩; refine ⟨.intE (by first | with_reducible rfl | (first | rfl)), ?_⟩; exact trivial; refine ⟨.box _ rfl ?_, ?_⟩; (iterate 2 refine ⟨.pvE (by first | with_reducible rfl | (first | rfl)), ?_⟩); (iterate 2 refine ⟨.eq rfl rfl, ?_⟩); (iterate 2 exact trivial))) rfl
    · have hsn : selN st = 0 := if_neg h1
      rw [hsn]
      (refine Q4 ?_; refine Q258 ?_; refine zd ?_; refine zk ?_; refine AW.skip ?_; refine onlyN_n ?_)
      show Weak _ _ _
      exact weak rfl (by (refine ⟨.eq rfl rfl, ?_⟩; (iterate 8 refine ⟨.eq rfl rfl, ?_⟩); refine ⟨.pvE (by first | with_reducible rfl | (first | rfl)), ?_⟩; exact trivial)) (by (refine ⟨WO.vals0 rfl numS0, ?_⟩; refine ⟨.box _ rfl ?_, ?_⟩; refine ⟨.intE (by first | with_reducible rfl | (first | rfl)), ?_⟩; exact trivial; refine ⟨.loop rfl, ?_⟩; refine ⟨.box _ rfl ?_, ?_⟩; refine ⟨.pvE (by first | with_reducible rfl | (first | rfl)), ?_⟩; exact trivial; refine ⟨.box _ rfl ?_, ?_⟩; refine ⟨.pvE (by first | with_reducible rfl | (first | rfl)), ?_⟩; refine ⟨.intE (by first | with_reducible rfl | (first | rfl)), ?_⟩; exact trivial; refine ⟨.box _ rfl ?_, ?_⟩; (iterate 2 refine ⟨.pvE (by first | with_reducible rfl | (first | rfl)), ?_⟩); (iterate 2 refine ⟨.eq rfl rfl, ?_⟩); exact trivial; refine ⟨.box _ rfl ?_, ?_⟩; refine ⟨.eq rfl rfl, ?_⟩; exact trivial; refine ⟨.box _ rfl ?_, ?_⟩; refine ⟨.pvE (by first | with_reducible rfl | (first | rfl)), ?_⟩; exact trivial; refine ⟨.box _ rfl ?_, ?_⟩; refine ⟨.pvE (by first | with_reducible rfl | (first | rfl)), ?_⟩; refine ⟨.intE (by first | with_reducible rfl | (first | rfl)), ?_⟩; exact trivial; refine ⟨.box _ rfl ?_, ?_⟩; (iterate 2 refine ⟨.pvE (by first | with_reducible rfl | (first | rfl)), ?_⟩); (iterate 2 refine ⟨.eq rfl rfl, ?_⟩); (iterate 2 exact trivial))) rfl
  generalize hfr : freeL 0 bs = fr at hfree
  have hfl : fr.length ≤ 1000000 := by rw [← hfr]; exact lit_frl h
  have hfn : fr.Nodup := by rw [← hfr]; exact freeL_nodup h.hi
  have hfd : ∀ (k : Nat) (hk : k < fr.length), 0 ≤ fr[k].1 ∧ ∃ hh : fr[k].1.toNat < fs.length, vrF fs fr[k].1 = fs[fr[k].1.toNat].var := fun k hk => by
    have hm : fr[k] ∈ freeL 0 bs := by rw [hfr]; exact List.getElem_mem hk
    obtain ⟨j, hj, h1, _⟩ := freeL_mem hm
    have hnb : bs.length = fs.length := h.nb.1
    refine ⟨by omega, by omega, ?_⟩
    unfold vrF
    rw [getD_of (by omega)]
  have hfk : ∀ (k : Nat) (hk : k < fr.length), 0 ≤ fr[k].2 ∧ fr[k].2 ≤ 1000000 := fun k hk => h.rk _ (by rw [hfr]; exact List.getElem_mem hk)
  generalize hvr : vrF fs = vr at hfd ⊢
  have hlen : ∀ s k, s ≤ st → (stP 0 st fr vr s k).length ≤ 6000000 := fun s k hs => by
    have h1 := stP_len (o := 0) (fr := fr) (vr := vr) (k := k) hs
    have h2 : (s + 1) * fr.length ≤ 5 * 1000000 := Nat.mul_le_mul (by omega) hfl
    omega
  (refine zq ?_; refine zb ?_; refine zP (hfree) ?_; refine Q51 ?_; refine Q88 ?_; refine Q226 ?_)
  (refine nz ?_; apply AW.loopR [27, 6, 0, 2, 3, 1010, 1009, 1007, 1005, 1004, 1002] [9, 8, 7, 6, 4, 2, 1, 0] (fun s : Nat => ([(28, litI s)] : List (Nat × AV))) (fun s : Nat => ([(3, some (.mp (mpV (numF 0 (stP 0 st fr vr s 0))))), (5, some (.box [litI (stP 0 st fr vr s 0).length]))] : List (Nat × Option Ob))) (fun s : Nat => s ≤ st) (fun s : Nat => st - s) (0); (conv => lhs; simp only [Nf.lpR, Nf.all, Nat.reduceBEq, reduceAdd, reduceSub]); (all_goals skip))
  · exact Nat.zero_le _
  · exact weak rfl (by (refine ⟨.intE (by first | with_reducible rfl | (first | rfl | (rw [stP_start, selV_len]))), ?_⟩; refine ⟨.intE (by first | with_reducible rfl | (first | rfl | (rw [stP_start, selV_len]))), ?_⟩; refine ⟨.pvE (by first | with_reducible rfl | (first | rfl | (rw [stP_start, selV_len]))), ?_⟩; (iterate 8 refine ⟨.eq rfl rfl, ?_⟩); refine ⟨.pvE (by first | with_reducible rfl | (first | rfl | (rw [stP_start, selV_len]))), ?_⟩; exact trivial)) (by (refine ⟨WO.valsE rfl (by rw [stP_start]), ?_⟩; refine ⟨.box _ rfl ?_, ?_⟩; refine ⟨.intE (by first | with_reducible rfl | (first | rfl | (rw [stP_start, selV_len]))), ?_⟩; exact trivial; refine ⟨.loop rfl, ?_⟩; refine ⟨.box _ rfl ?_, ?_⟩; refine ⟨.pvE (by first | with_reducible rfl | (first | rfl | (rw [stP_start, selV_len]))), ?_⟩; exact trivial; refine ⟨.box _ rfl ?_, ?_⟩; refine ⟨.pvE (by first | with_reducible rfl | (first | rfl | (rw [stP_start, selV_len]))), ?_⟩; refine ⟨.intE (by first | with_reducible rfl | (first | rfl | (rw [stP_start, selV_len]))), ?_⟩; exact trivial; refine ⟨.box _ rfl ?_, ?_⟩; refine ⟨.pvE (by first | with_reducible rfl | (first | rfl | (rw [stP_start, selV_len]))), ?_⟩; refine ⟨.pvE (by first | with_reducible rfl | (first | rfl | (rw [stP_start, selV_len]))), ?_⟩; (iterate 2 refine ⟨.eq rfl rfl, ?_⟩); exact trivial; refine ⟨.box _ rfl ?_, ?_⟩; refine ⟨.eq rfl rfl, ?_⟩; exact trivial; refine ⟨.box _ rfl ?_, ?_⟩; refine ⟨.pvE (by first | with_reducible rfl | (first | rfl | (rw [stP_start, selV_len]))), ?_⟩; exact trivial; refine ⟨.box _ rfl ?_, ?_⟩; refine ⟨.pvE (by first | with_reducible rfl | (first | rfl | (rw [stP_start, selV_len]))), ?_⟩; refine ⟨.intE (by first | with_reducible rfl | (first | rfl | (rw [stP_start, selV_len]))), ?_⟩; exact trivial; refine ⟨.box _ rfl ?_, ?_⟩; refine ⟨.pvE (by first | with_reducible rfl | (first | rfl | (rw [stP_start, selV_len]))), ?_⟩; refine ⟨.pvE (by first | with_reducible rfl | (first | rfl | (rw [stP_start, selV_len]))), ?_⟩; (iterate 2 refine ⟨.eq rfl rfl, ?_⟩); (iterate 2 exact trivial))) rfl
  rintro s hs
  by_cases hlt : s < st
  · (refine Q181 ?_; refine zm ?_; refine Q51 ?_; refine zm ?_; refine zn ?_; refine Q226 ?_)
    (refine nz ?_; apply AW.loopR [32, 31, 7, 28, 27, 6, 0, 2, 3, 1010, 1009, 1007, 1005, 1004, 1002] [9, 8, 7, 6, 4, 2, 1, 0] (fun k : Nat => ([(33, litI k)] : List (Nat × AV))) (fun k : Nat => ([(3, some (.mp (mpV (numF 0 (stP 0 st fr vr s k))))), (5, some (.box [litI (stP 0 st fr vr s k).length]))] : List (Nat × Option Ob))) (fun k : Nat => k ≤ fr.length) (fun k : Nat => fr.length - k) (0); (conv => lhs; simp only [Nf.lpR, Nf.all, Nat.reduceBEq, reduceAdd, reduceSub]); (all_goals skip))
    · exact Nat.zero_le _
    · exact weak rfl (by (refine ⟨.intE (by first | with_reducible rfl | (first | rfl)), ?_⟩; refine ⟨.intE (by first | with_reducible rfl | (first | rfl)), ?_⟩; refine ⟨.pvE (by first | with_reducible rfl | (first | rfl)), ?_⟩; (iterate 3 refine ⟨.intE (by first | with_reducible rfl | (first | rfl)), ?_⟩); refine ⟨.pvE (by first | with_reducible rfl | (first | rfl)), ?_⟩; (iterate 8 refine ⟨.eq rfl rfl, ?_⟩); refine ⟨.pvE (by first | with_reducible rfl | (first | rfl)), ?_⟩; exact trivial)) (by (refine ⟨WO.vals rfl, ?_⟩; refine ⟨.box _ rfl ?_, ?_⟩; refine ⟨.intE (by first | with_reducible rfl | (first | rfl)), ?_⟩; exact trivial; refine ⟨.loop rfl, ?_⟩; refine ⟨.box _ rfl ?_, ?_⟩; refine ⟨.pvE (by first | with_reducible rfl | (first | rfl)), ?_⟩; exact trivial; refine ⟨.box _ rfl ?_, ?_⟩; refine ⟨.pvE (by first | with_reducible rfl | (first | rfl)), ?_⟩; refine ⟨.intE (by first | with_reducible rfl | (first | rfl)), ?_⟩; exact trivial; refine ⟨.box _ rfl ?_, ?_⟩; (iterate 2 refine ⟨.pvE (by first | with_reducible rfl | (first | rfl)), ?_⟩); (iterate 2 refine ⟨.eq rfl rfl, ?_⟩); exact trivial; refine ⟨.box _ rfl ?_, ?_⟩; refine ⟨.eq rfl rfl, ?_⟩; exact trivial; refine ⟨.box _ rfl ?_, ?_⟩; refine ⟨.pvE (by first | with_reducible rfl | (first | rfl)), ?_⟩; exact trivial; refine ⟨.box _ rfl ?_, ?_⟩; refine ⟨.pvE (by first | with_reducible rfl | (first | rfl)), ?_⟩; refine ⟨.intE (by first | with_reducible rfl | (first | rfl)), ?_⟩; exact trivial; refine ⟨.box _ rfl ?_, ?_⟩; (iterate 2 refine ⟨.pvE (by first | with_reducible rfl | (first | rfl)), ?_⟩); (iterate 2 refine ⟨.eq rfl rfl, ?_⟩); (iterate 2 exact trivial))) rfl
    rintro k hk
    have hln := hlen s k hs
    by_cases hlt2 : k < fr.length
    · obtain ⟨hf0, hf1, hf2⟩ := hfd k hlt2
      have hlit := lenP (o := 0) (st := st) (vr := vr) s hlt2
      have hnum := numP (o := 0) (st := st) (vr := vr) s hlt2
      have hnew := stNew (st := st) (vr := vr) hfn hlt hlt2
      by_cases h0 : s = 0
      · have hlit := hlit (.inl h0)
        have hnum := hnum (.inl h0)
        have hnew := hnew (.inl h0)
        (refine Q181 ?_; (focus ((with_reducible apply AOps.index_map); (iterate 7 exact rfl); rotate_left; omega)); refine Q155 ?_; (with_reducible apply AOps.yieldN0 hcode0 hwtB hheld0 htm0'); (iterate 8 exact rfl); intro gR hroR_ hwtR hupR; refine Q256 ?_; refine And.intro (show isLp _ _ _ _ from ⟨_, _, _, _, rfl⟩) ?_; refine Q130 ?_; (with_reducible apply roundEndsN_n); exact ⟨_, _, _, _, rfl⟩; refine nz ?_; refine Q176 ?_; refine Q45 ?_; refine Q110 ?_)
        exact Q25
      · cases hb : fs[fr[k].1.toNat].var with
        | true =>
          have hlit := hlit (.inr (hf2.trans hb))
          have hnum := hnum (.inr (hf2.trans hb))
          have hnew := hnew (.inr (hf2.trans hb))
          (refine Q181 ?_; (focus ((with_reducible apply AOps.index_map); (iterate 7 exact rfl); rotate_left; omega)); refine Q147 ?_; refine nz ?_; refine Q70 ?_; (focus ((with_reducible apply AOps.index_mapI); (iterate 7 exact rfl); omega; rotate_left; (first | omega | exact Nat.zero_lt_one | exact (by simp)))); refine Q250 ?_; (with_reducible apply AOps.yieldN0 hcode0 hwtB hheld0 htm0'); (iterate 8 exact rfl); intro gR hroR_ hwtR hupR; refine Q256 ?_; refine And.intro (show isLp _ _ _ _ from ⟨_, _, _, _, rfl⟩) ?_; refine Q130 ?_; (with_reducible apply roundEndsN_n); exact ⟨_, _, _, _, rfl⟩; refine nz ?_; refine Q38 ?_; refine AOps.not rfl rfl rfl ?_; refine AOps.pickBt rfl rfl (by assumption) rfl rfl rfl rfl ?_; refine Q45 ?_; refine Q110 ?_)
          exact Q25
        | false =>
          have hst := stayP (o := 0) (st := st) (vr := vr) s hlt2 (fun h => h.elim h0 fun h => by rw [hf2.trans hb] at h; cases h)
          (refine Q181 ?_; (focus ((with_reducible apply AOps.index_map); (iterate 7 exact rfl); rotate_left; omega)); refine Q147 ?_; refine nz ?_; refine Q70 ?_; (focus ((with_reducible apply AOps.index_mapI); (iterate 7 exact rfl); omega; rotate_left; (first | omega | exact Nat.zero_lt_one | exact (by simp)))); refine Q144 ?_; refine zm ?_; refine Q297 ?_)
          exact ⟨k + 1, by omega, by omega, weak rfl (by (refine ⟨.intE (by first | with_reducible rfl | (first | rfl | (rw [hst]))), ?_⟩; refine ⟨.intE (by first | with_reducible rfl | (first | rfl | (rw [hst]))), ?_⟩; refine ⟨.pvE (by first | with_reducible rfl | (first | rfl | (rw [hst]))), ?_⟩; refine ⟨.intE (by first | with_reducible rfl | (first | rfl | (rw [hst]))), ?_⟩; refine ⟨.intE (by first | with_reducible rfl | (first | rfl | (rw [hst]))), ?_⟩; refine ⟨.intE (by first | with_reducible rfl | (first | rfl | (rw [hst]))), ?_⟩; refine ⟨.pvE (by first | with_reducible rfl | (first | rfl | (rw [hst]))), ?_⟩; (iterate 8 refine ⟨.eq rfl rfl, ?_⟩); refine ⟨.pvE (by first | with_reducible rfl | (first | rfl | (rw [hst]))), ?_⟩; exact trivial)) (by (refine ⟨WO.valsE rfl (by rw [hst]), ?_⟩; refine ⟨.box _ rfl ?_, ?_⟩; refine ⟨.intE (by first | with_reducible rfl | (first | rfl | (rw [hst]))), ?_⟩; exact trivial; refine ⟨.loop rfl, ?_⟩; refine ⟨.box _ rfl ?_, ?_⟩; refine ⟨.pvE (by first | with_reducible rfl | (first | rfl | (rw [hst]))), ?_⟩; exact trivial; refine ⟨.box _ rfl ?_, ?_⟩; refine ⟨.pvE (by first | with_reducible rfl | (first | rfl | (rw [hst]))), ?_⟩; refine ⟨.intE (by first | with_reducible rfl | (first | rfl | (rw [hst]))), ?_⟩; exact trivial; refine ⟨.box _ rfl ?_, ?_⟩; refine ⟨.pvE (by first | with_reducible rfl | (first | rfl | (rw [hst]))), ?_⟩; refine ⟨.pvE (by first | with_reducible rfl | (first | rfl | (rw [hst]))), ?_⟩; (iterate 2 refine ⟨.eq rfl rfl, ?_⟩); exact trivial; refine ⟨.box _ rfl ?_, ?_⟩; refine ⟨.eq rfl rfl, ?_⟩; exact trivial; refine ⟨.box _ rfl ?_, ?_⟩; refine ⟨.pvE (by first | with_reducible rfl | (first | rfl | (rw [hst]))), ?_⟩; exact trivial; refine ⟨.box _ rfl ?_, ?_⟩; refine ⟨.pvE (by first | with_reducible rfl | (first | rfl | (rw [hst]))), ?_⟩; refine ⟨.intE (by first | with_reducible rfl | (first | rfl | (rw [hst]))), ?_⟩; exact trivial; refine ⟨.box _ rfl ?_, ?_⟩; refine ⟨.pvE (by first | with_reducible rfl | (first | rfl | (rw [hst]))), ?_⟩; refine ⟨.pvE (by first | with_reducible rfl | (first | rfl | (rw [hst]))), ?_⟩; (iterate 2 refine ⟨.eq rfl rfl, ?_⟩); (iterate 2 exact trivial))) rfl⟩
    · obtain rfl : k = fr.length := by omega
      have hnx := stP_next 0 st fr vr s
      (refine Q52 ?_; refine Q201 ?_; refine Q110 ?_)
      exact ⟨s + 1, by omega, by omega, weak rfl (by (refine ⟨.intE (by first | with_reducible rfl | (first | rfl | (rw [hnx]))), ?_⟩; refine ⟨.intE (by first | with_reducible rfl | (first | rfl | (rw [hnx]))), ?_⟩; refine ⟨.pvE (by first | with_reducible rfl | (first | rfl | (rw [hnx]))), ?_⟩; (iterate 8 refine ⟨.eq rfl rfl, ?_⟩); refine ⟨.pvE (by first | with_reducible rfl | (first | rfl | (rw [hnx]))), ?_⟩; exact trivial)) (by (refine ⟨WO.valsE rfl (by rw [hnx]), ?_⟩; refine ⟨.box _ rfl ?_, ?_⟩; refine ⟨.intE (by first | with_reducible rfl | (first | rfl | (rw [hnx]))), ?_⟩; exact trivial; refine ⟨.loop rfl, ?_⟩; refine ⟨.box _ rfl ?_, ?_⟩; refine ⟨.pvE (by first | with_reducible rfl | (first | rfl | (rw [hnx]))), ?_⟩; exact trivial; refine ⟨.box _ rfl ?_, ?_⟩; refine ⟨.pvE (by first | with_reducible rfl | (first | rfl | (rw [hnx]))), ?_⟩; refine ⟨.intE (by first | with_reducible rfl | (first | rfl | (rw [hnx]))), ?_⟩; exact trivial; refine ⟨.box _ rfl ?_, ?_⟩; refine ⟨.pvE (by first | with_reducible rfl | (first | rfl | (rw [hnx]))), ?_⟩; refine ⟨.pvE (by first | with_reducible rfl | (first | rfl | (rw [hnx]))), ?_⟩; (iterate 2 refine ⟨.eq rfl rfl, ?_⟩); exact trivial; refine ⟨.box _ rfl ?_, ?_⟩; refine ⟨.eq rfl rfl, ?_⟩; exact trivial; refine ⟨.box _ rfl ?_, ?_⟩; refine ⟨.pvE (by first | with_reducible rfl | (first | rfl | (rw [hnx]))), ?_⟩; exact trivial; refine ⟨.box _ rfl ?_, ?_⟩; refine ⟨.pvE (by first | with_reducible rfl | (first | rfl | (rw [hnx]))), ?_⟩; refine ⟨.intE (by first | with_reducible rfl | (first | rfl | (rw [hnx]))), ?_⟩; exact trivial; refine ⟨.box _ rfl ?_, ?_⟩; refine ⟨.pvE (by first | with_reducible rfl | (first | rfl | (rw [hnx]))), ?_⟩; refine ⟨.pvE (by first | with_reducible rfl | (first | rfl | (rw [hnx]))), ?_⟩; (iterate 2 refine ⟨.eq rfl rfl, ?_⟩); (iterate 2 exact trivial))) rfl⟩
  · obtain rfl : st = s := by omega
    rw [stP_end]
    have hVm := h.mem
    have hfv : vrF fs = vr := hvr
    simp only [hfr, hfv] at hVm
    have hlv : litV 0 p.length (arF fs) st vr bs p = outL (varsM 0 st fr vr) (actV p.length (arF fs) p) (varsM 0 st fr vr) := by
      rw [outL_all hVm]; unfold litV; rw [hfr]
    rw [hlv, ← stP_end]
    have hfS : ∀ v : VarT, v.1 < 0 → actV p.length (arF fs) p v = v := fun v hv => by unfold actV; rw [if_neg (by omega)]
    have hfP : ∀ (s k : Nat) (hk : k < fr.length), actV p.length (arF fs) p ((s : Int), fr[k].1, fr[k].2) = ((s : Int), fr[k].1, imgR p.length p (arF fs fr[k].1) fr[k].2) := fun s k hk => by unfold actV; rw [if_pos (by show (0 : Int) ≤ s; omega)]
    have harf : ∀ (k : Nat) (hk : k < fr.length) (hh : fr[k].1.toNat < fs.length), arF fs fr[k].1 = fs[fr[k].1.toNat].sorts.length := fun k hk hh => by unfold arF; rw [getD_of hh]
    obtain ⟨srt, hpa⟩ := h.pa
    have hpr : ∀ (ar : Nat) (t : Int), ar ≤ 3 → (0 ≤ t ∧ t ≤ 1000000) → Fn Tryz.prog 49 [scp at' (st : Int), .pv (ints p), relA ((ar : Int), [t])] (relA ((ar : Int), [imgR p.length p ar t])) := fun ar t ha ht => by
      have := pRel_fn at' st p ar [t] hpa h.pl.1 h.pl.2 ha (fun x hx => by rw [List.mem_singleton] at hx; rw [hx]; exact ht) (by simp)
      rwa [List.map_singleton, sortL_one] at this
    generalize hF : actV p.length (arF fs) p = F at hfS hfP ⊢
    generalize hV : stP 0 st fr vr st 0 = V
    (refine Q52 ?_; refine Q201 ?_; refine Q288 ?_; refine Q9 ?_; refine zd ?_; refine Q46 ?_; refine Q41 ?_; refine Q202 ?_; (with_reducible apply AOps.inline (hf := Tryz.func48)); (with_reducible assumption); (iterate 10 exact rfl); intro g_ hro_ hwt_; refine nz ?_; refine Q105 ?_; refine Q15 ?_; refine Q51 ?_; refine AOps.makeFunc_3 rfl rfl rfl rfl rfl rfl rfl ?_; refine Q203 ?_)
    refine AW.rangeFuncUH (ps := [30]) (by assumption) (by assumption) rfl rfl Tryz.func91 rfl rfl rfl rfl rfl rfl (by decide) ?_
    intro gC tm1 l1 ps1 asg1 body1 hcode1 hroC hwtC hheld1 hupC htm1
    have htm1' : tm1.size = 61 := htm1
    refine AW.cut (δc := { n := 61, env := [(0, .yld 14), (1, .ptr 12 0), (2, .ptr 13 0), (3, .ptr 11 0), (1012, .ptr 10 0), (1009, .ptr 4 0), (1007, .ptr 2 0), (1005, .ptr 1 0), (1004, .ptr 0 0)], objs := [(10, some (.box [.own 15 3 1 ((outL V F (selV 0 (selN st))).map encI)])), (15, some .row), (14, some (.loop l1 tm1 ps1 asg1 body1 .ready)), (13, some (.box [.pv (bnds bs)])), (12, some (.box [.pv (ints at'), litI st])), (11, some (.box [.pv (.slice 2 (so.map encSo)), .pv (.slice 3 (fs.map encF)), slv pr, slv fa])), (3, some (.mp (mpV (numF 0 V)))), (4, some (.box [.mapr 3])), (2, some (.box [.pv (ints p)])), (1, some (.box [.pv (ints at'), litI st])), (0, some (.box [.pv (.slice 2 (so.map encSo)), .pv (.slice 3 (fs.map encF)), slv pr, slv fa]))], nx := 16 }) ?_ ?_
    · by_cases h1 : 1 < st
      · have hsn : selN st = st := if_pos h1
        rw [hsn]
        (refine Q4 ?_; refine Q258 ?_; refine Q83 ?_; refine Q88 ?_; refine Q226 ?_)
        (refine nz ?_; apply AW.loopR [14, 0, 1, 2, 3, 1012, 1009, 1007, 1005, 1004] [14, 13, 12, 11, 3, 4, 2, 1, 0] (fun k : Nat => ([(15, litI k)] : List (Nat × AV))) (fun k : Nat => ([(10, some (.box [.own 15 3 1 ((outL V F (selV 0 k)).map encI)])), (15, some .row)] : List (Nat × Option Ob))) (fun k : Nat => k ≤ st) (fun k : Nat => st - k) (0); (conv => lhs; simp only [Nf.lpR, Nf.all, Nat.reduceBEq, reduceAdd, reduceSub]); (all_goals skip))
        · exact Nat.zero_le _
        · rw [outS0]
          exact weak rfl (by (refine ⟨.intE (by first | with_reducible rfl | (first | rfl)), ?_⟩; refine ⟨.intE (by first | with_reducible rfl | (first | rfl)), ?_⟩; (iterate 9 refine ⟨.eq rfl rfl, ?_⟩); exact trivial)) (by (refine ⟨.box _ rfl ?_, ?_⟩; refine ⟨.nilown _ _ _ rfl rfl, ?_⟩; exact trivial; refine ⟨.newrow rfl, ?_⟩; refine ⟨.loop rfl, ?_⟩; refine ⟨.box _ rfl ?_, ?_⟩; refine ⟨.pvE (by first | with_reducible rfl | (first | rfl)), ?_⟩; exact trivial; refine ⟨.box _ rfl ?_, ?_⟩; refine ⟨.pvE (by first | with_reducible rfl | (first | rfl)), ?_⟩; refine ⟨.intE (by first | with_reducible rfl | (first | rfl)), ?_⟩; exact trivial; refine ⟨.box _ rfl ?_, ?_⟩; (iterate 2 refine ⟨.pvE (by first | with_reducible rfl | (first | rfl)), ?_⟩); (iterate 2 refine ⟨.eq rfl rfl, ?_⟩); exact trivial; refine ⟨WO.vals rfl, ?_⟩; refine ⟨.box _ rfl ?_, ?_⟩; refine ⟨.eq rfl rfl, ?_⟩; exact trivial; refine ⟨.box _ rfl ?_, ?_⟩; refine ⟨.pvE (by first | with_reducible rfl | (first | rfl)), ?_⟩; exact trivial; refine ⟨.box _ rfl ?_, ?_⟩; refine ⟨.pvE (by first | with_reducible rfl | (first | rfl)), ?_⟩; refine ⟨.intE (by first | with_reducible rfl | (first | rfl)), ?_⟩; exact trivial; refine ⟨.box _ rfl ?_, ?_⟩; (iterate 2 refine ⟨.pvE (by first | with_reducible rfl | (first | rfl)), ?_⟩); (iterate 2 refine ⟨.eq rfl rfl, ?_⟩); (iterate 2 exact trivial))) rfl
        rintro k hk
        have hol := outL_len V F (selV 0 k)
        rw [selV_len] at hol
        by_cases hlt : k < st
        · have hos := outS V F hfS k
          (refine Q338 ?_; (with_reducible apply AOps.yieldN0 hcode1 hwtC hheld1 htm1'); (iterate 8 exact rfl); intro gR hroR_ hwtR hupR; refine Q256 ?_; refine And.intro (show isLp _ _ _ _ from ⟨_, _, _, _, rfl⟩) ?_; refine Q186 ?_; refine Q45 ?_; refine thenD_n ?_; refine Q296 ?_; show AOps .held _ _ _ [_, _, _, _] _ _; refine Q232 ?_; intro k_ hk_; refine nz ?_; refine AR.step1M (i := 4) rfl (by kernel_rfl) rfl ?_; intro g_ hgro_ hw_; refine Q50 ?_; refine Q87 ?_; intro g_ hgro_ hw_; (with_reducible apply AOps.appendS); exact rfl; (first | exact .pv rfl | exact .own rfl | exact .nil rfl); (iterate 9 exact rfl); (first | omega | (simp only [List.length_map, List.length_append, List.length_cons, List.length_nil, List.length_drop, List.length_take, List.length_set, chunk_len]; omega)); refine Q121 ?_; refine Q124 ?_; intro g_ hgro_ hwt2_; refine Q197 ?_; (with_reducible apply roundEndsN_n); exact ⟨_, _, _, _, rfl⟩; refine nz ?_; refine Q267 ?_; refine Q110 ?_)
          exact ⟨k + 1, by omega, by omega, weak rfl (by (refine ⟨.intE (by first | with_reducible rfl | (first | rfl | (rw [hos, List.map_append]; rfl))), ?_⟩; refine ⟨.intE (by first | with_reducible rfl | (first | rfl | (rw [hos, List.map_append]; rfl))), ?_⟩; (iterate 9 refine ⟨.eq rfl rfl, ?_⟩); exact trivial)) (by (refine ⟨.box _ rfl ?_, ?_⟩; refine ⟨.ownE (by first | with_reducible rfl | (first | rfl | (rw [hos, List.map_append]; rfl))) rfl, ?_⟩; exact trivial; refine ⟨.row rfl, ?_⟩; refine ⟨.loop rfl, ?_⟩; refine ⟨.box _ rfl ?_, ?_⟩; refine ⟨.pvE (by first | with_reducible rfl | (first | rfl | (rw [hos, List.map_append]; rfl))), ?_⟩; exact trivial; refine ⟨.box _ rfl ?_, ?_⟩; refine ⟨.pvE (by first | with_reducible rfl | (first | rfl | (rw [hos, List.map_append]; rfl))), ?_⟩; refine ⟨.intE (by first | with_reducible rfl | (first | rfl | (rw [hos, List.map_append]; rfl))), ?_⟩; exact trivial; refine ⟨.box _ rfl ?_, ?_⟩; refine ⟨.pvE (by first | with_reducible rfl | (first | rfl | (rw [hos, List.map_append]; rfl))), ?_⟩; refine ⟨.pvE (by first | with_reducible rfl | (first | rfl | (rw [hos, List.map_append]; rfl))), ?_⟩; (iterate 2 refine ⟨.eq rfl rfl, ?_⟩); exact trivial; refine ⟨WO.vals rfl, ?_⟩; refine ⟨.box _ rfl ?_, ?_⟩; refine ⟨.eq rfl rfl, ?_⟩; exact trivial; refine ⟨.box _ rfl ?_, ?_⟩; refine ⟨.pvE (by first | with_reducible rfl | (first | rfl | (rw [hos, List.map_append]; rfl))), ?_⟩; exact trivial; refine ⟨.box _ rfl ?_, ?_⟩; refine ⟨.pvE (by first | with_reducible rfl | (first | rfl | (rw [hos, List.map_append]; rfl))), ?_⟩; refine ⟨.intE (by first | with_reducible rfl | (first | rfl | (rw [hos, List.map_append]; rfl))), ?_⟩; exact trivial; refine ⟨.box _ rfl ?_, ?_⟩; refine ⟨.pvE (by first | with_reducible rfl | (first | rfl | (rw [hos, List.map_append]; rfl))), ?_⟩; refine ⟨.pvE (by first | with_reducible rfl | (first | rfl | (rw [hos, List.map_append]; rfl))), ?_⟩; (iterate 2 refine ⟨.eq rfl rfl, ?_⟩); (iterate 2 exact trivial))) rfl⟩
        · obtain rfl : k = st := by omega
          (refine Q52 ?_; refine Q201 ?_; refine onlyN_n ?_)
          show Weak _ _ _
          exact weak rfl (by (refine ⟨.eq rfl rfl, ?_⟩; (iterate 8 refine ⟨.eq rfl rfl, ?_⟩); exact trivial)) (by (refine ⟨.box _ rfl ?_, ?_⟩; refine ⟨.ownE (by first | with_reducible rfl | (first | rfl)) rfl, ?_⟩; exact trivial; refine ⟨.row rfl, ?_⟩; refine ⟨.loop rfl, ?_⟩; refine ⟨.box _ rfl ?_, ?_⟩; refine ⟨.pvE (by first | with_reducible rfl | (first | rfl)), ?_⟩; exact trivial; refine ⟨.box _ rfl ?_, ?_⟩; refine ⟨.pvE (by first | with_reducible rfl | (first | rfl)), ?_⟩; refine ⟨.intE (by first | with_reducible rfl | (first | rfl)), ?_⟩; exact trivial; refine ⟨.box _ rfl ?_, ?_⟩; (iterate 2 refine ⟨.pvE (by first | with_reducible rfl | (first | rfl)), ?_⟩); (iterate 2 refine ⟨.eq rfl rfl, ?_⟩); exact trivial; refine ⟨WO.vals rfl, ?_⟩; refine ⟨.box _ rfl ?_, ?_⟩; refine ⟨.eq rfl rfl, ?_⟩; exact trivial; refine ⟨.box _ rfl ?_, ?_⟩; refine ⟨.pvE (by first | with_reducible rfl | (first | rfl)), ?_⟩; exact trivial; refine ⟨.box _ rfl ?_, ?_⟩; refine ⟨.pvE (by first | with_reducible rfl | (first | rfl)), ?_⟩; refine ⟨.intE (by first | with_reducible rfl | (first | rfl)), ?_⟩; exact trivial; refine ⟨.box _ rfl ?_, ?_⟩; (iterate 2 refine ⟨.pvE (by first | with_reducible rfl | (first | rfl)), ?_⟩); (iterate 2 refine ⟨.eq rfl rfl, ?_⟩); (iterate 2 exact trivial))) rfl
      · have hsn : selN st = 0 := if_neg h1
        rw [hsn, outS0]
        (refine Q4 ?_; refine Q258 ?_; refine zd ?_; refine zk ?_; refine AW.skip ?_; refine onlyN_n ?_)
        show Weak _ _ _
        exact weak rfl (by (refine ⟨.eq rfl rfl, ?_⟩; (iterate 8 refine ⟨.eq rfl rfl, ?_⟩); exact trivial)) (by (refine ⟨.box _ rfl ?_, ?_⟩; refine ⟨.nilown _ _ _ rfl rfl, ?_⟩; exact trivial; refine ⟨.newrow rfl, ?_⟩; refine ⟨.loop rfl, ?_⟩; refine ⟨.box _ rfl ?_, ?_⟩; refine ⟨.pvE (by first | with_reducible rfl | (first | rfl)), ?_⟩; exact trivial; refine ⟨.box _ rfl ?_, ?_⟩; refine ⟨.pvE (by first | with_reducible rfl | (first | rfl)), ?_⟩; refine ⟨.intE (by first | with_reducible rfl | (first | rfl)), ?_⟩; exact trivial; refine ⟨.box _ rfl ?_, ?_⟩; (iterate 2 refine ⟨.pvE (by first | with_reducible rfl | (first | rfl)), ?_⟩); (iterate 2 refine ⟨.eq rfl rfl, ?_⟩); exact trivial; refine ⟨WO.vals rfl, ?_⟩; refine ⟨.box _ rfl ?_, ?_⟩; refine ⟨.eq rfl rfl, ?_⟩; exact trivial; refine ⟨.box _ rfl ?_, ?_⟩; refine ⟨.pvE (by first | with_reducible rfl | (first | rfl)), ?_⟩; exact trivial; refine ⟨.box _ rfl ?_, ?_⟩; refine ⟨.pvE (by first | with_reducible rfl | (first | rfl)), ?_⟩; refine ⟨.intE (by first | with_reducible rfl | (first | rfl)), ?_⟩; exact trivial; refine ⟨.box _ rfl ?_, ?_⟩; (iterate 2 refine ⟨.pvE (by first | with_reducible rfl | (first | rfl)), ?_⟩); (iterate 2 refine ⟨.eq rfl rfl, ?_⟩); (iterate 2 exact trivial))) rfl
    (refine zq ?_; refine zb ?_; refine zP (hfree) ?_; refine Q51 ?_; refine Q88 ?_; refine Q226 ?_)
    (refine nz ?_; apply AW.loopR [27, 6, 0, 2, 3, 1012, 1009, 1007, 1005, 1004] [14, 13, 12, 11, 3, 4, 2, 1, 0] (fun s : Nat => ([(28, litI s)] : List (Nat × AV))) (fun s : Nat => ([(10, some (.box [.own 15 3 1 ((outL V F (stP 0 st fr vr s 0)).map encI)])), (15, some .row)] : List (Nat × Option Ob))) (fun s : Nat => s ≤ st) (fun s : Nat => st - s) (0); (conv => lhs; simp only [Nf.lpR, Nf.all, Nat.reduceBEq, reduceAdd, reduceSub]); (all_goals skip))
    · exact Nat.zero_le _
    · rw [stP_start]
      exact weak rfl (by (refine ⟨.intE (by first | with_reducible rfl | (first | rfl)), ?_⟩; refine ⟨.intE (by first | with_reducible rfl | (first | rfl)), ?_⟩; refine ⟨.pvE (by first | with_reducible rfl | (first | rfl)), ?_⟩; (iterate 8 refine ⟨.eq rfl rfl, ?_⟩); exact trivial)) (by (refine ⟨.box _ rfl ?_, ?_⟩; refine ⟨.ownE (by first | with_reducible rfl | (first | rfl)) rfl, ?_⟩; exact trivial; refine ⟨.row rfl, ?_⟩; refine ⟨.loop rfl, ?_⟩; refine ⟨.box _ rfl ?_, ?_⟩; refine ⟨.pvE (by first | with_reducible rfl | (first | rfl)), ?_⟩; exact trivial; refine ⟨.box _ rfl ?_, ?_⟩; refine ⟨.pvE (by first | with_reducible rfl | (first | rfl)), ?_⟩; refine ⟨.intE (by first | with_reducible rfl | (first | rfl)), ?_⟩; exact trivial; refine ⟨.box _ rfl ?_, ?_⟩; (iterate 2 refine ⟨.pvE (by first | with_reducible rfl | (first | rfl)), ?_⟩); (iterate 2 refine ⟨.eq rfl rfl, ?_⟩); exact trivial; refine ⟨WO.vals rfl, ?_⟩; refine ⟨.box _ rfl ?_, ?_⟩; refine ⟨.eq rfl rfl, ?_⟩; exact trivial; refine ⟨.box _ rfl ?_, ?_⟩; refine ⟨.pvE (by first | with_reducible rfl | (first | rfl)), ?_⟩; exact trivial; refine ⟨.box _ rfl ?_, ?_⟩; refine ⟨.pvE (by first | with_reducible rfl | (first | rfl)), ?_⟩; refine ⟨.intE (by first | with_reducible rfl | (first | rfl)), ?_⟩; exact trivial; refine ⟨.box _ rfl ?_, ?_⟩; (iterate 2 refine ⟨.pvE (by first | with_reducible rfl | (first | rfl)), ?_⟩); (iterate 2 refine ⟨.eq rfl rfl, ?_⟩); (iterate 2 exact trivial))) rfl
    rintro s hs
    by_cases hlt : s < st
    · (refine Q181 ?_; refine zm ?_; refine Q51 ?_; refine zm ?_; refine zn ?_; refine Q226 ?_)
      (refine nz ?_; apply AW.loopR [32, 31, 7, 28, 27, 6, 0, 2, 3, 1012, 1009, 1007, 1005, 1004] [14, 13, 12, 11, 3, 4, 2, 1, 0] (fun k : Nat => ([(33, litI k)] : List (Nat × AV))) (fun k : Nat => ([(10, some (.box [.own 15 3 1 ((outL V F (stP 0 st fr vr s k)).map encI)])), (15, some .row)] : List (Nat × Option Ob))) (fun k : Nat => k ≤ fr.length) (fun k : Nat => fr.length - k) (0); (conv => lhs; simp only [Nf.lpR, Nf.all, Nat.reduceBEq, reduceAdd, reduceSub]); (all_goals skip))
      · exact Nat.zero_le _
      · exact weak rfl (by (refine ⟨.intE (by first | with_reducible rfl | (first | rfl)), ?_⟩; refine ⟨.intE (by first | with_reducible rfl | (first | rfl)), ?_⟩; refine ⟨.pvE (by first | with_reducible rfl | (first | rfl)), ?_⟩; (iterate 3 refine ⟨.intE (by first | with_reducible rfl | (first | rfl)), ?_⟩); refine ⟨.pvE (by first | with_reducible rfl | (first | rfl)), ?_⟩; (iterate 8 refine ⟨.eq rfl rfl, ?_⟩); exact trivial)) (by (refine ⟨.box _ rfl ?_, ?_⟩; refine ⟨.ownE (by first | with_reducible rfl | (first | rfl)) rfl, ?_⟩; exact trivial; refine ⟨.row rfl, ?_⟩; refine ⟨.loop rfl, ?_⟩; refine ⟨.box _ rfl ?_, ?_⟩; refine ⟨.pvE (by first | with_reducible rfl | (first | rfl)), ?_⟩; exact trivial; refine ⟨.box _ rfl ?_, ?_⟩; refine ⟨.pvE (by first | with_reducible rfl | (first | rfl)), ?_⟩; refine ⟨.intE (by first | with_reducible rfl | (first | rfl)), ?_⟩; exact trivial; refine ⟨.box _ rfl ?_, ?_⟩; (iterate 2 refine ⟨.pvE (by first | with_reducible rfl | (first | rfl)), ?_⟩); (iterate 2 refine ⟨.eq rfl rfl, ?_⟩); exact trivial; refine ⟨WO.vals rfl, ?_⟩; refine ⟨.box _ rfl ?_, ?_⟩; refine ⟨.eq rfl rfl, ?_⟩; exact trivial; refine ⟨.box _ rfl ?_, ?_⟩; refine ⟨.pvE (by first | with_reducible rfl | (first | rfl)), ?_⟩; exact trivial; refine ⟨.box _ rfl ?_, ?_⟩; refine ⟨.pvE (by first | with_reducible rfl | (first | rfl)), ?_⟩; refine ⟨.intE (by first | with_reducible rfl | (first | rfl)), ?_⟩; exact trivial; refine ⟨.box _ rfl ?_, ?_⟩; (iterate 2 refine ⟨.pvE (by first | with_reducible rfl | (first | rfl)), ?_⟩); (iterate 2 refine ⟨.eq rfl rfl, ?_⟩); (iterate 2 exact trivial))) rfl
      rintro k hk
      have hln := hlen s k hs
      have hol := outL_len V F (stP 0 st fr vr s k)
      by_cases hlt2 : k < fr.length
      · obtain ⟨hf0, hf1, hf2⟩ := hfd k hlt2
        have hft := hfk k hlt2
        have hos := outP (o := 0) (st := st) (vr := vr) V F s hlt2
        rw [hfP s k hlt2, harf k hlt2 hf1] at hos
        have hrel := hpr fs[fr[k].1.toNat].sorts.length fr[k].2 (h.ar _ (List.getElem_mem hf1)).2 hft
        generalize imgR p.length p fs[fr[k].1.toNat].sorts.length fr[k].2 = im at hos hrel
        by_cases h0 : s = 0
        · have hos := hos (.inl h0)
          (refine Q181 ?_; (focus ((with_reducible apply AOps.index_map); (iterate 7 exact rfl); rotate_left; omega)); refine Q155 ?_; (with_reducible apply AOps.yieldN0 hcode1 hwtC hheld1 htm1'); (iterate 8 exact rfl); intro gR hroR_ hwtR hupR; refine Q256 ?_; refine And.intro (show isLp _ _ _ _ from ⟨_, _, _, _, rfl⟩) ?_; refine Q186 ?_; refine Q251 ?_; refine zo ?_; refine AW.regionM [0, 1, 2, 3, 4, 5, 6, 7, 8, 9] [13] rfl (by assumption) (by kernel_rfl) (by kernel_rfl) rfl ?_; show AOps .held _ _ _ [_, _, _, _, _, _, _, _, _, _] _ _; refine Q101 ?_; refine AOps.fieldAddrN 103 1 1 rfl rfl rfl rfl ?_; refine zb ?_; (focus ((with_reducible apply AOps.index_mapI); (iterate 7 exact rfl); omega; rotate_left; (first | omega | exact Nat.zero_lt_one | exact (by simp)))); refine Q191 ?_; refine zn ?_; refine AOps.fieldAddrN 103 2 2 rfl rfl rfl rfl ?_; refine zb ?_; refine Q7 ?_; intro k_ hk_; refine nz ?_; apply AR.cut [9, 8, 7, 6, 5, 4, 3, 2, 1, 0, 10, 11, 12]; intro hJ_0; (refine AR.step2M (i := 10) (j := 12) rfl (by kernel_rfl) rfl rfl ?_ ?_ <;> intro g_ hgro_ hw_); refine Q265 ?_; intro g_ hgro_ hw_; refine Q90 ?_; exact AR.perm (by kernel_rfl) hJ_0; refine Q9 ?_; refine Q7 ?_; refine AR.step1M (i := 10) rfl (by kernel_rfl) rfl ?_; intro g_ hgro_ hw_; exact Q65; refine AR.step1LM (i := 13) rfl (by kernel_rfl) rfl (by kernel_rfl) ?_; intro g_ hgro_ hwt2_; refine Q312 ?_; (focus ((with_reducible apply AOps.index_mapI); (iterate 7 exact rfl); omega; rotate_left; (first | omega | exact Nat.zero_lt_one | exact (by simp)))); refine zr ?_; refine AOps.fieldAddrN 103 2 2 rfl rfl rfl rfl ?_; refine Q35 ?_; refine nz ?_; refine zd ?_; refine Q296 ?_; show AOps .held _ _ _ [_, _, _, _] _ _; refine Q232 ?_; intro k_ hk_; refine nz ?_; refine AR.step1M (i := 4) rfl (by kernel_rfl) rfl ?_; intro g_ hgro_ hw_; refine Q50 ?_; refine Q87 ?_; intro g_ hgro_ hw_; (with_reducible apply AOps.appendS); exact rfl; (first | exact .pv rfl | exact .own rfl | exact .nil rfl); (iterate 9 exact rfl); (first | omega | (simp only [List.length_map, List.length_append, List.length_cons, List.length_nil, List.length_drop, List.length_take, List.length_set, chunk_len]; omega)); refine Q121 ?_; refine Q124 ?_; intro g_ hgro_ hwt2_; refine Q197 ?_; (with_reducible apply roundEndsN_n); exact ⟨_, _, _, _, rfl⟩; refine nz ?_; refine Q176 ?_; refine Q45 ?_; refine Q110 ?_)
          exact Q19
        · cases hb : fs[fr[k].1.toNat].var with
          | true =>
            have hos := hos (.inr (hf2.trans hb))
            (refine Q181 ?_; (focus ((with_reducible apply AOps.index_map); (iterate 7 exact rfl); rotate_left; omega)); refine Q147 ?_; refine nz ?_; refine Q70 ?_; (focus ((with_reducible apply AOps.index_mapI); (iterate 7 exact rfl); omega; rotate_left; (first | omega | exact Nat.zero_lt_one | exact (by simp)))); refine Q250 ?_; (with_reducible apply AOps.yieldN0 hcode1 hwtC hheld1 htm1'); (iterate 8 exact rfl); intro gR hroR_ hwtR hupR; refine Q256 ?_; refine And.intro (show isLp _ _ _ _ from ⟨_, _, _, _, rfl⟩) ?_; refine Q186 ?_; refine Q251 ?_; refine zo ?_; refine AW.regionM [0, 1, 2, 3, 4, 5, 6, 7, 8, 9] [13] rfl (by assumption) (by kernel_rfl) (by kernel_rfl) rfl ?_; show AOps .held _ _ _ [_, _, _, _, _, _, _, _, _, _] _ _; refine Q101 ?_; refine AOps.fieldAddrN 103 1 1 rfl rfl rfl rfl ?_; refine zb ?_; (focus ((with_reducible apply AOps.index_mapI); (iterate 7 exact rfl); omega; rotate_left; (first | omega | exact Nat.zero_lt_one | exact (by simp)))); refine Q191 ?_; refine zn ?_; refine AOps.fieldAddrN 103 2 2 rfl rfl rfl rfl ?_; refine zb ?_; refine Q7 ?_; intro k_ hk_; refine nz ?_; apply AR.cut [9, 8, 7, 6, 5, 4, 3, 2, 1, 0, 10, 11, 12]; intro hJ_0; (refine AR.step2M (i := 10) (j := 12) rfl (by kernel_rfl) rfl rfl ?_ ?_ <;> intro g_ hgro_ hw_); refine Q265 ?_; intro g_ hgro_ hw_; refine Q90 ?_; exact AR.perm (by kernel_rfl) hJ_0; refine Q9 ?_; refine Q7 ?_; refine AR.step1M (i := 10) rfl (by kernel_rfl) rfl ?_; intro g_ hgro_ hw_; exact Q65; refine AR.step1LM (i := 13) rfl (by kernel_rfl) rfl (by kernel_rfl) ?_; intro g_ hgro_ hwt2_; refine Q312 ?_; (focus ((with_reducible apply AOps.index_mapI); (iterate 7 exact rfl); omega; rotate_left; (first | omega | exact Nat.zero_lt_one | exact (by simp)))); refine zr ?_; refine AOps.fieldAddrN 103 2 2 rfl rfl rfl rfl ?_; refine Q35 ?_; refine nz ?_; refine zd ?_; refine Q296 ?_; show AOps .held _ _ _ [_, _, _, _] _ _; refine Q232 ?_; intro k_ hk_; refine nz ?_; refine AR.step1M (i := 4) rfl (by kernel_rfl) rfl ?_; intro g_ hgro_ hw_; refine Q50 ?_; refine Q87 ?_; intro g_ hgro_ hw_; (with_reducible apply AOps.appendS); exact rfl; (first | exact .pv rfl | exact .own rfl | exact .nil rfl); (iterate 9 exact rfl); (first | omega | (simp only [List.length_map, List.length_append, List.length_cons, List.length_nil, List.length_drop, List.length_take, List.length_set, chunk_len]; omega)); refine Q121 ?_; refine Q124 ?_; intro g_ hgro_ hwt2_; refine Q197 ?_; (with_reducible apply roundEndsN_n); exact ⟨_, _, _, _, rfl⟩; refine nz ?_; refine Q38 ?_; refine AOps.not rfl rfl rfl ?_; refine AOps.pickBt rfl rfl (by assumption) rfl rfl rfl rfl ?_; refine Q45 ?_; refine Q110 ?_)
            exact Q19
          | false =>
            have hst := stayP (o := 0) (st := st) (vr := vr) s hlt2 (fun h => h.elim h0 fun h => by rw [hf2.trans hb] at h; cases h)
            (refine Q181 ?_; (focus ((with_reducible apply AOps.index_map); (iterate 7 exact rfl); rotate_left; omega)); refine Q147 ?_; refine nz ?_; refine Q70 ?_; (focus ((with_reducible apply AOps.index_mapI); (iterate 7 exact rfl); omega; rotate_left; (first | omega | exact Nat.zero_lt_one | exact (by simp)))); refine Q144 ?_; refine zm ?_; refine Q297 ?_)
            exact ⟨k + 1, by omega, by omega, weak rfl (by (refine ⟨.intE (by first | with_reducible rfl | (first | rfl | (rw [hst]))), ?_⟩; refine ⟨.intE (by first | with_reducible rfl | (first | rfl | (rw [hst]))), ?_⟩; refine ⟨.pvE (by first | with_reducible rfl | (first | rfl | (rw [hst]))), ?_⟩; refine ⟨.intE (by first | with_reducible rfl | (first | rfl | (rw [hst]))), ?_⟩; refine ⟨.intE (by first | with_reducible rfl | (first | rfl | (rw [hst]))), ?_⟩; refine ⟨.intE (by first | with_reducible rfl | (first | rfl | (rw [hst]))), ?_⟩; refine ⟨.pvE (by first | with_reducible rfl | (first | rfl | (rw [hst]))), ?_⟩; (iterate 8 refine ⟨.eq rfl rfl, ?_⟩); exact trivial)) (by (refine ⟨.box _ rfl ?_, ?_⟩; refine ⟨.ownE (by first | with_reducible rfl | (first | rfl | (rw [hst]))) rfl, ?_⟩; exact trivial; refine ⟨.row rfl, ?_⟩; refine ⟨.loop rfl, ?_⟩; refine ⟨.box _ rfl ?_, ?_⟩; refine ⟨.pvE (by first | with_reducible rfl | (first | rfl | (rw [hst]))), ?_⟩; exact trivial; refine ⟨.box _ rfl ?_, ?_⟩; refine ⟨.pvE (by first | with_reducible rfl | (first | rfl | (rw [hst]))), ?_⟩; refine ⟨.intE (by first | with_reducible rfl | (first | rfl | (rw [hst]))), ?_⟩; exact trivial; refine ⟨.box _ rfl ?_, ?_⟩; refine ⟨.pvE (by first | with_reducible rfl | (first | rfl | (rw [hst]))), ?_⟩; refine ⟨.pvE (by first | with_reducible rfl | (first | rfl | (rw [hst]))), ?_⟩; (iterate 2 refine ⟨.eq rfl rfl, ?_⟩); exact trivial; refine ⟨WO.vals rfl, ?_⟩; refine ⟨.box _ rfl ?_, ?_⟩; refine ⟨.eq rfl rfl, ?_⟩; exact trivial; refine ⟨.box _ rfl ?_, ?_⟩; refine ⟨.pvE (by first | with_reducible rfl | (first | rfl | (rw [hst]))), ?_⟩; exact trivial; refine ⟨.box _ rfl ?_, ?_⟩; refine ⟨.pvE (by first | with_reducible rfl | (first | rfl | (rw [hst]))), ?_⟩; refine ⟨.intE (by first | with_reducible rfl | (first | rfl | (rw [hst]))), ?_⟩; exact trivial; refine ⟨.box _ rfl ?_, ?_⟩; refine ⟨.pvE (by first | with_reducible rfl | (first | rfl | (rw [hst]))), ?_⟩; refine ⟨.pvE (by first | with_reducible rfl | (first | rfl | (rw [hst]))), ?_⟩; (iterate 2 refine ⟨.eq rfl rfl, ?_⟩); (iterate 2 exact trivial))) rfl⟩
      · obtain rfl : k = fr.length := by omega
        have hnx := stP_next 0 st fr vr s
        (refine Q52 ?_; refine Q201 ?_; refine Q110 ?_)
        exact ⟨s + 1, by omega, by omega, weak rfl (by (refine ⟨.intE (by first | with_reducible rfl | (first | rfl | (rw [hnx]))), ?_⟩; refine ⟨.intE (by first | with_reducible rfl | (first | rfl | (rw [hnx]))), ?_⟩; refine ⟨.pvE (by first | with_reducible rfl | (first | rfl | (rw [hnx]))), ?_⟩; (iterate 8 refine ⟨.eq rfl rfl, ?_⟩); exact trivial)) (by (refine ⟨.box _ rfl ?_, ?_⟩; refine ⟨.ownE (by first | with_reducible rfl | (first | rfl | (rw [hnx]))) rfl, ?_⟩; exact trivial; refine ⟨.row rfl, ?_⟩; refine ⟨.loop rfl, ?_⟩; refine ⟨.box _ rfl ?_, ?_⟩; refine ⟨.pvE (by first | with_reducible rfl | (first | rfl | (rw [hnx]))), ?_⟩; exact trivial; refine ⟨.box _ rfl ?_, ?_⟩; refine ⟨.pvE (by first | with_reducible rfl | (first | rfl | (rw [hnx]))), ?_⟩; refine ⟨.intE (by first | with_reducible rfl | (first | rfl | (rw [hnx]))), ?_⟩; exact trivial; refine ⟨.box _ rfl ?_, ?_⟩; refine ⟨.pvE (by first | with_reducible rfl | (first | rfl | (rw [hnx]))), ?_⟩; refine ⟨.pvE (by first | with_reducible rfl | (first | rfl | (rw [hnx]))), ?_⟩; (iterate 2 refine ⟨.eq rfl rfl, ?_⟩); exact trivial; refine ⟨WO.vals rfl, ?_⟩; refine ⟨.box _ rfl ?_, ?_⟩; refine ⟨.eq rfl rfl, ?_⟩; exact trivial; refine ⟨.box _ rfl ?_, ?_⟩; refine ⟨.pvE (by first | with_reducible rfl | (first | rfl | (rw [hnx]))), ?_⟩; exact trivial; refine ⟨.box _ rfl ?_, ?_⟩; refine ⟨.pvE (by first | with_reducible rfl | (first | rfl | (rw [hnx]))), ?_⟩; refine ⟨.intE (by first | with_reducible rfl | (first | rfl | (rw [hnx]))), ?_⟩; exact trivial; refine ⟨.box _ rfl ?_, ?_⟩; refine ⟨.pvE (by first | with_reducible rfl | (first | rfl | (rw [hnx]))), ?_⟩; refine ⟨.pvE (by first | with_reducible rfl | (first | rfl | (rw [hnx]))), ?_⟩; (iterate 2 refine ⟨.eq rfl rfl, ?_⟩); (iterate 2 exact trivial))) rfl⟩
    · obtain rfl : st = s := by omega
      rw [hV]
      (refine Q52 ?_; refine Q201 ?_; refine Q288 ?_; refine zb ?_; refine Q294 ?_)
      (apply ends_ret; (exact Res.one (.tmp rfl rfl)); (exact Le.own _ _ _ _ rfl))
end Go.Ab
