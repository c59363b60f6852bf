/- What Parse takes is what Format writes, and what Format writes is read back. No conditions. -/
import Derived.Test.YtijkecidjjicbaaGreatDoorAqPF
import Derived.Test.YtijkecidjjicbaaGreatDoorAbZ
import Derived.Test.YtijkecidjjicbaaGreatDoorAbL3
import Derived.Test.YtijkecidjjicbaaGreatDoorAbL2
import Derived.Test.YtijkecidjjicbaaGreatDoorRows
import Derived.Test.YtijkecidjjicbaaGreatDoorTie
import Derived.Test.YtijkecidjjicbaaGreatDoorCards
import Derived.SevenTiedAt
import Derived.LaidMore
import Derived.Stop.Joined
import Derived.Stop.LaidErr
import Derived.ChangeMaps5
import Derived.WalkKit
import Derived.ProofKit
import Derived.OpenShut
import Derived.ChangeOld
import Derived.Below
set_option linter.unusedSimpArgs false
set_option linter.unusedVariables false
namespace Go.Ab
open Go Go.Proofs
open Nat (reduceAdd reduceSub)
set_option maxRecDepth 20000
set_option maxHeartbeats 16000000
theorem parse_err {s : SpecM} {t : Bt} (h : (parseF s t).2 = 340) : (parseF s t).1 = zM := by
  unfold parseF at h ⊢
  split
  · rfl
  · rename_i m r hm
    rw [hm] at h
    simp only at h ⊢
    split
    · rename_i hc
      rw [if_pos hc] at h
      cases h
    · rfl
attribute [local irreducible] AW AOps thenD inBlockD AR iterEnds roundEndsN inlEnds noGotoD EndsX EndsP byteAt parseF fmtT mkS
theorem lawRt_fn (s : SpecM) (m : ModM) (t : Bt) : FnW errT Tryz.prog 4 [spc s, mdl m, litS (mkS t)] (litB true) := by
  have hstay_ := errT_stay
  have hh := head34_fn
  have h1 := few_fn s m
  cases e1 : fewB s m with
  | false =>
    rw [e1] at h1
    obtain ⟨so, fs, p, q⟩ := s
    obtain ⟨ats, stp, sts, lp⟩ := m
    refine FnW.enter hstay_ (n := 81) Tryz.func4 rfl rfl rfl rfl rfl (by decide) fun g hro_ hwt_ hT => ?_; (try refine nz ?_)
    (refine j136 ?_; (with_reducible apply AOps.callW (hf := hh)); (first | (with_reducible assumption) | (refine TB.gs ?_ (by with_reducible assumption); with_reducible assumption) | (refine TB.gi ?_ (by with_reducible assumption); with_reducible assumption) | exact TB.none _); (repeat (first | exact .nil | (refine .cons rfl ?_ ?_; (first | exact .pv _ | exact .own _ _ _ _ rfl | exact .nil _ | exact .any _ | exact .rptr _ | (refine .aggL ?_; repeat (first | exact .nil | (refine .cons ?_ ?_; (first | exact .pv _ | exact .own _ _ _ _ rfl | exact .nil _)))))))); exact rfl; exact rfl; exact (fun h_ => by cases h_); refine j23 ?_; refine j139 ?_; refine zA (h1) ?_; refine j216 ?_; refine j94 ?_; refine AOps.pick_lt rfl rfl rfl rfl rfl rfl ?_; refine j158 ?_; refine j330 ?_)
    (apply ends_ret; (exact Res.one (.tmp rfl rfl)); (refine Le.litB ?_; (rfl)))
  | true =>
  rw [e1] at h1
  obtain ⟨hsp, hsm⟩ := few_spec e1
  have hss := small_spec hsm
  have kz := mk_size t
  by_cases hmo : 3000 < t.length
  · obtain ⟨so, fs, p, q⟩ := s
    obtain ⟨ats, stp, sts, lp⟩ := m
    refine FnW.enter hstay_ (n := 81) Tryz.func4 rfl rfl rfl rfl rfl (by decide) fun g hro_ hwt_ hT => ?_; (try refine nz ?_)
    (refine j136 ?_; (with_reducible apply AOps.callW (hf := hh)); (first | (with_reducible assumption) | (refine TB.gs ?_ (by with_reducible assumption); with_reducible assumption) | (refine TB.gi ?_ (by with_reducible assumption); with_reducible assumption) | exact TB.none _); (repeat (first | exact .nil | (refine .cons rfl ?_ ?_; (first | exact .pv _ | exact .own _ _ _ _ rfl | exact .nil _ | exact .any _ | exact .rptr _ | (refine .aggL ?_; repeat (first | exact .nil | (refine .cons ?_ ?_; (first | exact .pv _ | exact .own _ _ _ _ rfl | exact .nil _)))))))); exact rfl; exact rfl; exact (fun h_ => by cases h_); refine j115 ?_; refine zc ?_; refine j330 ?_)
    (apply ends_ret; (exact Res.one (.tmp rfl rfl)); (refine Le.litB ?_; (rfl)))
  have h2 := rValid_fn s m (by omega) fun f hf => by have := hss.2 f hf; omega
  rw [valid_eq] at h2
  have p1 := parse_fn s hsp (t := t) (by omega)
  have p2 := fun (e2 : validB (fullR m.atoms) s m = true) => parse_fn s hsp (t := fmtT s m) (by have := fmt_le hsp e2; omega)
  have f2 := fun (e2 : validB (fullR m.atoms) s m = true) => format_fn s m (fmt_ok hsp e2)
  have q2 := mEqual_fn m m
  rw [decide_eq_true rfl] at q2
  have hpf := fun (e2 : validB (fullR m.atoms) s m = true) => parse_fmt hsp e2
  rcases parse_two s t with he | he
  · rw [he, parse_err he] at p1
    have q1 := rEq07_fn zM zM
    rw [decide_eq_true rfl] at q1
    cases e2 : validB (fullR m.atoms) s m with
    | false =>
      rw [e2] at h2
      clear p2 f2 hpf
      obtain ⟨so, fs, p, q⟩ := s
      obtain ⟨ats, stp, sts, lp⟩ := m
      refine FnW.enter hstay_ (n := 81) Tryz.func4 rfl rfl rfl rfl rfl (by decide) fun g hro_ hwt_ hT => ?_; (try refine nz ?_)
      (refine j136 ?_; (with_reducible apply AOps.callW (hf := hh)); (first | (with_reducible assumption) | (refine TB.gs ?_ (by with_reducible assumption); with_reducible assumption) | (refine TB.gi ?_ (by with_reducible assumption); with_reducible assumption) | exact TB.none _); (repeat (first | exact .nil | (refine .cons rfl ?_ ?_; (first | exact .pv _ | exact .own _ _ _ _ rfl | exact .nil _ | exact .any _ | exact .rptr _ | (refine .aggL ?_; repeat (first | exact .nil | (refine .cons ?_ ?_; (first | exact .pv _ | exact .own _ _ _ _ rfl | exact .nil _)))))))); exact rfl; exact rfl; exact (fun h_ => by cases h_); refine j343 ?_; (with_reducible apply AOps.callWp (hf := p1)); (first | (with_reducible assumption) | (refine TB.gs ?_ (by with_reducible assumption); with_reducible assumption) | (refine TB.gi ?_ (by with_reducible assumption); with_reducible assumption) | exact TB.none _); (repeat (first | exact .nil | (refine .cons rfl ?_ ?_; (first | exact .pv _ | exact .own _ _ _ _ rfl | exact .nil _ | exact .any _ | exact .rptr _ | (refine .aggL ?_; repeat (first | exact .nil | (refine .cons ?_ ?_; (first | exact .pv _ | exact .own _ _ _ _ rfl | exact .nil _)))))))); exact rfl; refine j128 ?_; refine AOps.not rfl rfl rfl ?_; refine j158 ?_; refine j330 ?_)
      (apply ends_ret; (exact Res.one (.tmp rfl rfl)); (refine Le.litB ?_; (rfl)))
    | true =>
      rw [e2] at h2
      have p2 := p2 e2
      have f2 := f2 e2
      rw [hpf e2] at p2
      clear hpf
      obtain ⟨so, fs, p, q⟩ := s
      obtain ⟨ats, stp, sts, lp⟩ := m
      generalize fmtT ⟨so, fs, p, q⟩ ⟨ats, stp, sts, lp⟩ = u at *
      refine FnW.enter hstay_ (n := 81) Tryz.func4 rfl rfl rfl rfl rfl (by decide) fun g hro_ hwt_ hT => ?_; (try refine nz ?_)
      (refine j136 ?_; (with_reducible apply AOps.callW (hf := hh)); (first | (with_reducible assumption) | (refine TB.gs ?_ (by with_reducible assumption); with_reducible assumption) | (refine TB.gi ?_ (by with_reducible assumption); with_reducible assumption) | exact TB.none _); (repeat (first | exact .nil | (refine .cons rfl ?_ ?_; (first | exact .pv _ | exact .own _ _ _ _ rfl | exact .nil _ | exact .any _ | exact .rptr _ | (refine .aggL ?_; repeat (first | exact .nil | (refine .cons ?_ ?_; (first | exact .pv _ | exact .own _ _ _ _ rfl | exact .nil _)))))))); exact rfl; exact rfl; exact (fun h_ => by cases h_); refine j343 ?_; (with_reducible apply AOps.callWp (hf := p1)); (first | (with_reducible assumption) | (refine TB.gs ?_ (by with_reducible assumption); with_reducible assumption) | (refine TB.gi ?_ (by with_reducible assumption); with_reducible assumption) | exact TB.none _); (repeat (first | exact .nil | (refine .cons rfl ?_ ?_; (first | exact .pv _ | exact .own _ _ _ _ rfl | exact .nil _ | exact .any _ | exact .rptr _ | (refine .aggL ?_; repeat (first | exact .nil | (refine .cons ?_ ?_; (first | exact .pv _ | exact .own _ _ _ _ rfl | exact .nil _)))))))); exact rfl; refine j128 ?_; refine j285 ?_; refine zo ?_; refine AW.regionM [0, 1, 2] [9] rfl (by assumption) (by kernel_rfl) (by kernel_rfl) rfl ?_; show AOps .held _ _ _ [_, _, _] _ _; refine j139 ?_; refine j37 ?_; refine j5 ?_; intro k_ hk_; apply AR.cut [2, 1, 0, 3, 4, 5, 6, 7, 8, 9]; intro hJ_0; apply AR.cut [2, 1, 0, 3, 4, 5, 6, 7, 8]; intro hJ_1; apply AR.cut [2, 1, 0, 3, 4, 5, 6, 7]; intro hJ_2; apply AR.cut [2, 1, 0, 3, 4, 5, 7, 8]; intro hJ_3; apply AR.cut [2, 1, 0, 3, 4, 5, 6, 8]; intro hJ_4; apply AR.cut [2, 1, 0, 3, 4, 5, 8]; intro hJ_5; apply AR.cut [2, 1, 0, 3, 8]; intro hJ_6; (refine AR.step2M (i := 3) (j := 8) rfl (by kernel_rfl) rfl rfl ?_ ?_ <;> intro g_ hgro_ hw_); refine zA (f2) ?_; refine j5 ?_; (refine AR.step2M (i := 4) (j := 8) rfl (by kernel_rfl) rfl rfl ?_ ?_ <;> intro g_ hgro_ hw_); (with_reducible apply AOps.callWp (hf := p2)); (first | (with_reducible assumption) | (refine TB.gs ?_ (by with_reducible assumption); with_reducible assumption) | (refine TB.gi ?_ (by with_reducible assumption); with_reducible assumption) | exact TB.none _); (repeat (first | exact .nil | (refine .cons rfl ?_ ?_; (first | exact .pv _ | exact .own _ _ _ _ rfl | exact .nil _ | exact .any _ | exact .rptr _ | (refine .aggL ?_; repeat (first | exact .nil | (refine .cons ?_ ?_; (first | exact .pv _ | exact .own _ _ _ _ rfl | exact .nil _)))))))); exact rfl; refine j5 ?_; (refine AR.step2M (i := 5) (j := 8) rfl (by kernel_rfl) rfl rfl ?_ ?_ <;> intro g_ hgro_ hw_); refine AOps.move_tup rfl rfl rfl ?_; refine j5 ?_; (refine AR.step3M (i := 6) (j := 7) (m := 8) rfl (by kernel_rfl) rfl rfl rfl ?_ ?_ ?_ <;> intro g_ hgro_ hw_); refine j269 ?_; (refine AR.step2M (i := 7) (j := 8) rfl (by kernel_rfl) rfl rfl ?_ ?_ <;> intro g_ hgro_ hw_); refine j212 ?_; exact AR.perm (by kernel_rfl) hJ_2; refine j287 ?_; exact AR.perm (by kernel_rfl) hJ_4; refine j269 ?_; (refine AR.step2M (i := 6) (j := 8) rfl (by kernel_rfl) rfl rfl ?_ ?_ <;> intro g_ hgro_ hw_); exact j227; refine j287 ?_; exact AR.perm (by kernel_rfl) hJ_3; refine j287 ?_; exact AR.perm (by kernel_rfl) hJ_5; refine j51 ?_; refine j309 ?_; intro g_ hgro_ hw_; exact j118; refine j287 ?_; exact AR.perm (by kernel_rfl) hJ_6; refine j51 ?_; refine j5 ?_; refine AR.step1M (i := 3) rfl (by kernel_rfl) rfl ?_; intro g_ hgro_ hw_; exact j315; refine AR.step1M (i := 4) rfl (by kernel_rfl) rfl ?_; intro g_ hgro_ hw_; (with_reducible apply AOps.callWp (hf := p2)); (first | (with_reducible assumption) | (refine TB.gs ?_ (by with_reducible assumption); with_reducible assumption) | (refine TB.gi ?_ (by with_reducible assumption); with_reducible assumption) | exact TB.none _); (repeat (first | exact .nil | (refine .cons rfl ?_ ?_; (first | exact .pv _ | exact .own _ _ _ _ rfl | exact .nil _ | exact .any _ | exact .rptr _ | (refine .aggL ?_; repeat (first | exact .nil | (refine .cons ?_ ?_; (first | exact .pv _ | exact .own _ _ _ _ rfl | exact .nil _)))))))); exact rfl; refine j309 ?_; intro g_ hgro_ hw_; exact j118; (refine AR.step2M (i := 6) (j := 7) rfl (by kernel_rfl) rfl rfl ?_ ?_ <;> intro g_ hgro_ hw_); refine j102 ?_; refine AR.meet hJ_4 (by kernel_rfl) (fun g_ => weak rfl ?_ ?_ rfl); (iterate 66 refine ⟨.eq rfl rfl, ?_⟩); exact trivial; refine j2 ?_; exact j7; refine j102 ?_; refine AR.meet hJ_3 (by kernel_rfl) (fun g_ => weak rfl ?_ ?_ rfl); (iterate 66 refine ⟨.eq rfl rfl, ?_⟩); exact trivial; refine j2 ?_; exact j7; (refine AR.step2L (i := 7) (j := 9) rfl (by kernel_rfl) rfl rfl (by kernel_rfl) ?_ ?_ <;> intro g_ hgro_ hwt2_); refine j212 ?_; exact AR.perm (by kernel_rfl) hJ_1; refine j182 ?_; refine j5 ?_; refine j161 ?_; intro g_ hgro_ hwt2_; refine j212 ?_; exact AR.perm (by kernel_rfl) hJ_0; refine AR.step1M (i := 6) rfl (by kernel_rfl) rfl ?_; intro g_ hgro_ hw_; refine j102 ?_; exact j155; refine AR.step1M (i := 8) rfl (by kernel_rfl) rfl ?_; intro g_ hgro_ hw_; refine j51 ?_; refine j163 ?_; exact j155; refine j97 ?_; intro g_ hgro_ hwt2_; exact j320; refine AR.step1LM (i := 10) rfl (by kernel_rfl) rfl (by kernel_rfl) ?_; intro g_ hgro_ hwt2_; refine j338 ?_)
      (apply ends_ret; (exact Res.one (.tmp rfl rfl)); (refine Le.litB ?_; (rfl)))
  · obtain ⟨k, e, hpe⟩ : ∃ k e, parseF s t = (k, e) := ⟨_, _, rfl⟩
    rw [hpe] at he p1
    obtain ⟨he0, hv, hf⟩ := parse_ok hpe (by have : e = 0 := he; omega)
    subst he0
    have v1 := validF s k (by omega)
    rw [hv] at v1
    have f1 := format_fn s k (fmt_ok hsp hv)
    rw [hf] at f1
    clear hf hv hpe
    simp only at p1
    cases e2 : validB (fullR m.atoms) s m with
    | false =>
      rw [e2] at h2
      clear p2 f2 hpf
      obtain ⟨so, fs, p, q⟩ := s
      obtain ⟨ats, stp, sts, lp⟩ := m
      obtain ⟨a2, s2, x2, l2⟩ := k
      refine FnW.enter hstay_ (n := 81) Tryz.func4 rfl rfl rfl rfl rfl (by decide) fun g hro_ hwt_ hT => ?_; (try refine nz ?_)
      (refine j136 ?_; (with_reducible apply AOps.callW (hf := hh)); (first | (with_reducible assumption) | (refine TB.gs ?_ (by with_reducible assumption); with_reducible assumption) | (refine TB.gi ?_ (by with_reducible assumption); with_reducible assumption) | exact TB.none _); (repeat (first | exact .nil | (refine .cons rfl ?_ ?_; (first | exact .pv _ | exact .own _ _ _ _ rfl | exact .nil _ | exact .any _ | exact .rptr _ | (refine .aggL ?_; repeat (first | exact .nil | (refine .cons ?_ ?_; (first | exact .pv _ | exact .own _ _ _ _ rfl | exact .nil _)))))))); exact rfl; exact rfl; exact (fun h_ => by cases h_); refine j343 ?_; (with_reducible apply AOps.callWp (hf := p1)); (first | (with_reducible assumption) | (refine TB.gs ?_ (by with_reducible assumption); with_reducible assumption) | (refine TB.gi ?_ (by with_reducible assumption); with_reducible assumption) | exact TB.none _); (repeat (first | exact .nil | (refine .cons rfl ?_ ?_; (first | exact .pv _ | exact .own _ _ _ _ rfl | exact .nil _ | exact .any _ | exact .rptr _ | (refine .aggL ?_; repeat (first | exact .nil | (refine .cons ?_ ?_; (first | exact .pv _ | exact .own _ _ _ _ rfl | exact .nil _)))))))); exact rfl; refine j228 ?_; (focus ((with_reducible apply AOps.guardF); (iterate 6 exact rfl); all_goals intro hc_)); refine j132 ?_; refine AOps.neq rfl rfl rfl rfl rfl ?_; refine zy ?_; refine zm ?_; refine j245 ?_; refine j103 ?_; refine j139 ?_; refine zA (h2) ?_; refine AOps.not rfl rfl rfl ?_; refine j158 ?_; refine j330 ?_; (all_goals skip); rotate_left; refine j77 ?_; (iterate 8 refine AOps.guard_u rfl rfl rfl rfl rfl rfl ?_); refine j124 ?_; refine zT ?_; refine j133 ?_; (all_goals skip); rotate_left)
      · (apply ends_ret; (exact Res.one (.tmp rfl rfl)); (refine Le.litB ?_; (rfl)))
      · exact absurd rfl hc_
    | true =>
      rw [e2] at h2
      have p2 := p2 e2
      have f2 := f2 e2
      rw [hpf e2] at p2
      clear hpf
      obtain ⟨so, fs, p, q⟩ := s
      obtain ⟨ats, stp, sts, lp⟩ := m
      obtain ⟨a2, s2, x2, l2⟩ := k
      generalize fmtT ⟨so, fs, p, q⟩ ⟨ats, stp, sts, lp⟩ = u at *
      refine FnW.enter hstay_ (n := 81) Tryz.func4 rfl rfl rfl rfl rfl (by decide) fun g hro_ hwt_ hT => ?_; (try refine nz ?_)
      (refine j136 ?_; (with_reducible apply AOps.callW (hf := hh)); (first | (with_reducible assumption) | (refine TB.gs ?_ (by with_reducible assumption); with_reducible assumption) | (refine TB.gi ?_ (by with_reducible assumption); with_reducible assumption) | exact TB.none _); (repeat (first | exact .nil | (refine .cons rfl ?_ ?_; (first | exact .pv _ | exact .own _ _ _ _ rfl | exact .nil _ | exact .any _ | exact .rptr _ | (refine .aggL ?_; repeat (first | exact .nil | (refine .cons ?_ ?_; (first | exact .pv _ | exact .own _ _ _ _ rfl | exact .nil _)))))))); exact rfl; exact rfl; exact (fun h_ => by cases h_); refine j343 ?_; (with_reducible apply AOps.callWp (hf := p1)); (first | (with_reducible assumption) | (refine TB.gs ?_ (by with_reducible assumption); with_reducible assumption) | (refine TB.gi ?_ (by with_reducible assumption); with_reducible assumption) | exact TB.none _); (repeat (first | exact .nil | (refine .cons rfl ?_ ?_; (first | exact .pv _ | exact .own _ _ _ _ rfl | exact .nil _ | exact .any _ | exact .rptr _ | (refine .aggL ?_; repeat (first | exact .nil | (refine .cons ?_ ?_; (first | exact .pv _ | exact .own _ _ _ _ rfl | exact .nil _)))))))); exact rfl; refine j228 ?_; (focus ((with_reducible apply AOps.guardF); (iterate 6 exact rfl); all_goals intro hc_)); refine j132 ?_; refine AOps.neq rfl rfl rfl rfl rfl ?_; refine zy ?_; refine zm ?_; refine j245 ?_; refine j103 ?_; refine j139 ?_; refine zA (h2) ?_; refine j285 ?_; refine zo ?_; refine AW.regionM [0, 1, 2] [9] rfl (by assumption) (by kernel_rfl) (by kernel_rfl) rfl ?_; show AOps .held _ _ _ [_, _, _] _ _; refine j139 ?_; refine j37 ?_; refine j5 ?_; intro k_ hk_; apply AR.cut [2, 1, 0, 3, 4, 5, 6, 7, 8, 9]; intro hJ_0; apply AR.cut [2, 1, 0, 3, 4, 5, 6, 7, 8]; intro hJ_1; apply AR.cut [2, 1, 0, 3, 4, 5, 6, 7]; intro hJ_2; apply AR.cut [2, 1, 0, 3, 4, 5, 7, 8]; intro hJ_3; apply AR.cut [2, 1, 0, 3, 4, 5, 6, 8]; intro hJ_4; apply AR.cut [2, 1, 0, 3, 4, 5, 8]; intro hJ_5; apply AR.cut [2, 1, 0, 3, 8]; intro hJ_6; (refine AR.step2M (i := 3) (j := 8) rfl (by kernel_rfl) rfl rfl ?_ ?_ <;> intro g_ hgro_ hw_); refine zA (f2) ?_; refine j5 ?_; (refine AR.step2M (i := 4) (j := 8) rfl (by kernel_rfl) rfl rfl ?_ ?_ <;> intro g_ hgro_ hw_); (with_reducible apply AOps.callWp (hf := p2)); (first | (with_reducible assumption) | (refine TB.gs ?_ (by with_reducible assumption); with_reducible assumption) | (refine TB.gi ?_ (by with_reducible assumption); with_reducible assumption) | exact TB.none _); (repeat (first | exact .nil | (refine .cons rfl ?_ ?_; (first | exact .pv _ | exact .own _ _ _ _ rfl | exact .nil _ | exact .any _ | exact .rptr _ | (refine .aggL ?_; repeat (first | exact .nil | (refine .cons ?_ ?_; (first | exact .pv _ | exact .own _ _ _ _ rfl | exact .nil _)))))))); exact rfl; refine j5 ?_; (refine AR.step2M (i := 5) (j := 8) rfl (by kernel_rfl) rfl rfl ?_ ?_ <;> intro g_ hgro_ hw_); refine AOps.move_tup rfl rfl rfl ?_; refine j5 ?_; (refine AR.step3M (i := 6) (j := 7) (m := 8) rfl (by kernel_rfl) rfl rfl rfl ?_ ?_ ?_ <;> intro g_ hgro_ hw_); refine j269 ?_; (refine AR.step2M (i := 7) (j := 8) rfl (by kernel_rfl) rfl rfl ?_ ?_ <;> intro g_ hgro_ hw_); refine j212 ?_; exact AR.perm (by kernel_rfl) hJ_2; refine j287 ?_; exact AR.perm (by kernel_rfl) hJ_4; refine j269 ?_; (refine AR.step2M (i := 6) (j := 8) rfl (by kernel_rfl) rfl rfl ?_ ?_ <;> intro g_ hgro_ hw_); exact j227; refine j287 ?_; exact AR.perm (by kernel_rfl) hJ_3; refine j287 ?_; exact AR.perm (by kernel_rfl) hJ_5; refine j51 ?_; refine j309 ?_; intro g_ hgro_ hw_; exact j118; refine j287 ?_; exact AR.perm (by kernel_rfl) hJ_6; refine j51 ?_; refine j5 ?_; refine AR.step1M (i := 3) rfl (by kernel_rfl) rfl ?_; intro g_ hgro_ hw_; exact j315; refine AR.step1M (i := 4) rfl (by kernel_rfl) rfl ?_; intro g_ hgro_ hw_; (with_reducible apply AOps.callWp (hf := p2)); (first | (with_reducible assumption) | (refine TB.gs ?_ (by with_reducible assumption); with_reducible assumption) | (refine TB.gi ?_ (by with_reducible assumption); with_reducible assumption) | exact TB.none _); (repeat (first | exact .nil | (refine .cons rfl ?_ ?_; (first | exact .pv _ | exact .own _ _ _ _ rfl | exact .nil _ | exact .any _ | exact .rptr _ | (refine .aggL ?_; repeat (first | exact .nil | (refine .cons ?_ ?_; (first | exact .pv _ | exact .own _ _ _ _ rfl | exact .nil _)))))))); exact rfl; refine j309 ?_; intro g_ hgro_ hw_; exact j118; (refine AR.step2M (i := 6) (j := 7) rfl (by kernel_rfl) rfl rfl ?_ ?_ <;> intro g_ hgro_ hw_); refine j102 ?_; refine AR.meet hJ_4 (by kernel_rfl) (fun g_ => weak rfl ?_ ?_ rfl); (iterate 66 refine ⟨.eq rfl rfl, ?_⟩); exact trivial; refine j2 ?_; exact j7; refine j102 ?_; refine AR.meet hJ_3 (by kernel_rfl) (fun g_ => weak rfl ?_ ?_ rfl); (iterate 66 refine ⟨.eq rfl rfl, ?_⟩); exact trivial; refine j2 ?_; exact j7; (refine AR.step2L (i := 7) (j := 9) rfl (by kernel_rfl) rfl rfl (by kernel_rfl) ?_ ?_ <;> intro g_ hgro_ hwt2_); refine j212 ?_; exact AR.perm (by kernel_rfl) hJ_1; refine j182 ?_; refine j5 ?_; refine j161 ?_; intro g_ hgro_ hwt2_; refine j212 ?_; exact AR.perm (by kernel_rfl) hJ_0; refine AR.step1M (i := 6) rfl (by kernel_rfl) rfl ?_; intro g_ hgro_ hw_; refine j102 ?_; exact j155; refine AR.step1M (i := 8) rfl (by kernel_rfl) rfl ?_; intro g_ hgro_ hw_; refine j51 ?_; refine j163 ?_; exact j155; refine j97 ?_; intro g_ hgro_ hwt2_; exact j320; refine AR.step1LM (i := 10) rfl (by kernel_rfl) rfl (by kernel_rfl) ?_; intro g_ hgro_ hwt2_; refine j338 ?_; (all_goals skip); rotate_left; refine j77 ?_; (iterate 8 refine AOps.guard_u rfl rfl rfl rfl rfl rfl ?_); refine j124 ?_; refine zT ?_; refine j133 ?_; (all_goals skip); rotate_left)
      · (apply ends_ret; (exact Res.one (.tmp rfl rfl)); (refine Le.litB ?_; (rfl)))
      · exact absurd rfl hc_
end Go.Ab
namespace Go.Proofs.YtijkecidjjicbaaGreatDoor.Law2
open Go Go.Ab Go.ChangeShapes Go.WideShapes Go.ChangeAt Go.RowKit
set_option linter.unusedVariables false
theorem own : ownKnob Tryz.prog.godebug = none := by kernel_rfl
theorem laidOut : laidOutB Tryz.prog = true := by kernel_rfl
theorem rdInts : Rd Tryz.prog 28 (fun l : List Int => [ints l]) (fun _ => True) :=
  Rd.map (Rd.slice (e := 3) (k := 1) (by' := 8) Tryz.underlying28 (by kernel_rfl) (by decide) (by kernel_rfl) (by decide) (fun _ => rfl) (Rd.int Tryz.underlying3)) id (fun _ => rfl) (fun _ _ => trivial)
theorem rdSort : Rd Tryz.prog 50 encSo (fun _ => True) :=
  Rd.map (Rd.struct (n := 2) Tryz.underlying50 (by kernel_rfl) (RdF.cons (k := 1) (n := 1) rfl (by kernel_rfl) (Rd.string Tryz.underlying9) (RdF.cons (k := 1) (n := 0) rfl (by kernel_rfl) (Rd.bool Tryz.underlying4) RdF.nil))) (fun p => ((p.1, p.2.1) : SortM)) (fun p => rfl) (fun _ _ => trivial)
theorem rdField : Rd Tryz.prog 52 encF (fun _ => True) :=
  Rd.map (Rd.struct (n := 3) Tryz.underlying52 (by kernel_rfl) (RdF.cons (k := 1) (n := 2) rfl (by kernel_rfl) (Rd.string Tryz.underlying9) (RdF.cons (k := 1) (n := 1) rfl (by kernel_rfl) rdInts (RdF.cons (k := 1) (n := 0) rfl (by kernel_rfl) (Rd.bool Tryz.underlying4) RdF.nil)))) (fun p => (⟨p.1, p.2.1, p.2.2.1⟩ : FieldM)) (fun p => rfl) (fun _ _ => trivial)
def encS (s : SpecM) : List PV := [.slice 2 (s.sorts.map encSo), .slice 3 (s.fields.map encF), .lit (.slice s.preds.a s.preds.l s.preds.c), .lit (.slice s.facts.a s.facts.l s.facts.c)]
theorem rdSpec : Rd Tryz.prog 27 encS (fun _ => True) :=
  Rd.map (Rd.struct (n := 4) Tryz.underlying27 (by kernel_rfl) (RdF.cons (k := 1) (n := 3) rfl (by kernel_rfl) (Rd.slice (e := 50) (k := 2) (by' := 24) Tryz.underlying22 (by kernel_rfl) (by decide) (by kernel_rfl) (by decide) (fun _ => rfl) rdSort) (RdF.cons (k := 1) (n := 2) rfl (by kernel_rfl) (Rd.slice (e := 52) (k := 3) (by' := 48) Tryz.underlying23 (by kernel_rfl) (by decide) (by kernel_rfl) (by decide) (fun _ => rfl) rdField) (RdF.cons (k := 1) (n := 1) rfl (by kernel_rfl) (Rd.raw Tryz.underlying24) (RdF.cons (k := 1) (n := 0) rfl (by kernel_rfl) (Rd.raw Tryz.underlying25) RdF.nil)))))
    (fun p => (⟨p.1, p.2.1, ⟨p.2.2.1.1, p.2.2.1.2.1, p.2.2.1.2.2⟩, ⟨p.2.2.2.1.1, p.2.2.2.1.2.1, p.2.2.2.1.2.2⟩⟩ : SpecM)) (fun p => rfl) (fun _ _ => trivial)
theorem rdScope : Rd Tryz.prog 30 (fun p : List Int × Int => [ints p.1, .lit (.int .i64 p.2)]) (fun _ => True) :=
  Rd.map (Rd.struct (n := 2) Tryz.underlying30 (by kernel_rfl) (RdF.cons (k := 1) (n := 1) rfl (by kernel_rfl) rdInts (RdF.cons (k := 1) (n := 0) rfl (by kernel_rfl) (Rd.int Tryz.underlying3) RdF.nil))) (fun p => (p.1, p.2.1)) (fun p => rfl) (fun _ _ => trivial)
theorem rdRel : Rd Tryz.prog 54 encR (fun _ => True) :=
  Rd.map (Rd.struct (n := 2) Tryz.underlying54 (by kernel_rfl) (RdF.cons (k := 1) (n := 1) rfl (by kernel_rfl) (Rd.int Tryz.underlying3) (RdF.cons (k := 1) (n := 0) rfl (by kernel_rfl) rdInts RdF.nil))) (fun p => (p.1, p.2.1)) (fun p => rfl) (fun _ _ => trivial)
theorem rdRels : Rd Tryz.prog 55 (fun l : List RelM => [rels l]) (fun _ => True) :=
  Rd.map (Rd.slice (e := 54) (k := 2) (by' := 32) Tryz.underlying55 (by kernel_rfl) (by decide) (by kernel_rfl) (by decide) (fun _ => rfl) rdRel) id (fun _ => rfl) (fun _ _ => trivial)
theorem rdStts : Rd Tryz.prog 31 (fun l : List (List RelM) => [stts l]) (fun _ => True) :=
  Rd.map (Rd.slice (e := 55) (k := 1) (by' := 24) Tryz.underlying31 (by kernel_rfl) (by decide) (by kernel_rfl) (by decide) (fun _ => rfl) rdRels) id (fun _ => rfl) (fun _ _ => trivial)
def encM (m : ModM) : List PV := [ints m.atoms, .lit (.int .i64 m.steps), stts m.states, .lit (.int .i64 m.loop)]
theorem rdMdl : Rd Tryz.prog 33 encM (fun _ => True) :=
  Rd.map (Rd.struct (n := 4) Tryz.underlying33 (by kernel_rfl) (RdF.cons (k := 2) (n := 2) rfl (by kernel_rfl) rdScope (RdF.cons (k := 1) (n := 1) rfl (by kernel_rfl) rdStts (RdF.cons (k := 1) (n := 0) rfl (by kernel_rfl) (Rd.int Tryz.underlying3) RdF.nil)))) (fun p => (⟨p.1.1, p.1.2, p.2.1, p.2.2.1⟩ : ModM)) (fun p => rfl) (fun _ _ => trivial)
theorem ra_true {N : Nat → Prop} {w : World} {v : Value} (h : RA (pcx N) w v (litB true)) : v = .bool true := by
  cases h with
  | pv h => cases h; rfl
noncomputable abbrev laidOf {H : Type} : List (String × DataW H) := [("math/bits.deBruijn32tab", Rows.laid_math_bits_deBruijn32tab), ("math/bits.deBruijn64tab", Rows.laid_math_bits_deBruijn64tab), ("internal/strconv.uint64pow10", Rows.laid_internal_strconv_uint64pow10), ("strconv.ErrRange", Rows.laid_strconv_ErrRange), ("strconv.ErrSyntax", Rows.laid_strconv_ErrSyntax)]
set_option maxRecDepth 100000 in
theorem door_met (os : Os) (args : Array Value) : laidMetH Tryz.prog laidOf ((World.doorLaid Tryz.prog 62 os).forCall (fun _ _ => 0) ⟨#[], args, []⟩).memory :=
  laidMetH_of_parts3 (fuel := 8) (laidMet_of_run' 8 (by kernel_rfl) (by kernel_rfl)) (by kernel_rfl) (by kernel_rfl)
theorem rowErr (u : TypeId) (h : Tryz.prog.typeName? 3 u = some "*errors.errorString") : u = 188 :=
  typeName_ptr_named (nm := "errors.errorString") (by rw [show "*" ++ "errors.errorString" = "*errors.errorString" by decide]; kernel_rfl) (by kernel_rfl) (by decide) u (by rw [show "*" ++ "errors.errorString" = "*errors.errorString" by decide]; exact h)
theorem errHere {W : World} (h : laidMetH Tryz.prog laidOf W) : errT W := by
  have h1 : laidMet Tryz.prog laidOf W := h
  obtain ⟨a, _, hv, _⟩ := laid_sentinel h1.tail.tail.tail.tail (g := 1) (ti := 58) (tp := 188) (te := 190) (ts := 9) (by kernel_rfl) (by kernel_rfl) Tryz.underlying58 rowErr Tryz.underlying188 Tryz.underlying190 rfl rfl Tryz.underlying9 (by kernel_rfl) (by kernel_rfl)
  exact ⟨_, _, hv⟩
set_option maxRecDepth 100000 in
theorem lifted (os : Os) (started : os.Started) (H : Type) (enc : TypeId × Value → H) :
    ReturnsInHanded {} Tryz.checked os 4 .any (fun w args => (Rows.tableRoundTripSpec.pre enc Tryz.prog Tryz.f4 [] false w args ∧ laidMetH Tryz.prog laidOf w) ∧ sizedMet enc Tryz.prog Tryz.f4 (OpenSpec.ofChange Rows.tableRoundTripSpec) false w args) (Rows.tableRoundTripSpec.post enc Tryz.prog Tryz.f4 false true false false) := by
  refine returnsInHanded_of_change_and (C := Tryz.checked) (X := fun w _ => laidMetH Tryz.prog laidOf w) (fun _ _ _ hh h => h.of_heap hh) own started (by kernel_rfl) Tryz.func4
    (ChangeSpec.witness_shaped (enc := enc) (C := Tryz.checked) (os := os) (X := fun w _ => laidMetH Tryz.prog laidOf w) false (World.doorLaid Tryz.prog 62 os) #[.agg #[.slice none 0 0, .slice none 0 0, .slice none 0 0, .slice none 0 0], .agg #[.slice none 0 0, .int .i64 0, .slice none 0 0, .int .i64 0], .string ⟨#[]⟩] 8 rfl (World.shaped_of_RefB (by kernel_rfl) (by kernel_rfl)) (by kernel_rfl) (by kernel_rfl) (by kernel_rfl) (door_met os _)) ?_
  intro W base args ds gs before hval0 hW hcnd hsz hL _
  have hval : ∀ (j : Nat) t v, Tryz.f4.params[j]? = some t → args[j]? = some v → Value.okWide Tryz.prog W .any base t v := hval0
  have hW' := hW
  obtain ⟨p, q, hA0, hV, rfl, hfz, hnd⟩ := hW
  have hA : DataW.TrodAll enc Tryz.prog W 0 (fun _ => true) true Tryz.f4.params.toList args.toList ds p := hA0
  rw [Tryz.params4] at hA hval
  obtain ⟨v0, vs0, d0, ds0, p0, q0, hargs, rfl, rfl, h0, r0⟩ := trodAll_cons hA
  obtain ⟨v1, vs1, d1, ds1, p1, q1, rfl, rfl, rfl, h1, r1⟩ := trodAll_cons r0
  obtain ⟨v2, vs2, d2, ds2, p2, q2, rfl, rfl, rfl, h2, r2⟩ := trodAll_cons r1
  obtain ⟨rfl, rfl, rfl⟩ := trodAll_nil r2
  obtain rfl : args = #[v0, v1, v2] := by cases args; simp_all
  obtain ⟨rfl, rfl⟩ := trodVars_none hV
  have wt : ∀ (j : Nat) (t : TypeId) (d : DataW H), [27, 33, 9][j]? = some t → [d0, d1, d2][j]? = some d → ∀ n ∈ d.weights Tryz.prog t, n ≤ reachBytes := by
    intro j t d ht hd
    have hj : j < 3 := (List.getElem?_eq_some_iff.1 ht).1
    refine arg_weights hsz (j := j) ?_ ?_
    · rw [List.getElem?_append_left (by rw [Tryz.params4]; exact hj), Tryz.params4]; exact ht
    · rw [List.getElem?_append_left (by simpa using hj)]; exact hd
  obtain ⟨cs0, rfl⟩ := Ab.okWide_struct Tryz.underlying27 (hval 0 27 v0 rfl rfl)
  obtain ⟨cs1, rfl⟩ := Ab.okWide_struct Tryz.underlying33 (hval 1 33 v1 rfl rfl)
  obtain ⟨x0, s0, o0⟩ := arg_agg rdSpec h0 (wt 0 27 d0 rfl rfl) rfl
  obtain ⟨x1, s1, o1⟩ := arg_agg rdMdl h1 (wt 1 33 d1 rfl rfl) rfl
  obtain ⟨b2, rfl, e2, e2', z2⟩ := ChangeMaps.open_string Tryz.underlying9 (hval 2 9 v2 rfl rfl) h2
  have s2 : RA (pcx fun _ => True) W (.string b2) (litS (mkS (sL b2))) := by rw [mk_sL]; exact .pv (.lit _)
  have lt0 : ∀ x ∈ p0, x.block < W.heap.size := by obtain ⟨m, hm⟩ := h0; exact DataW.trod_lt m _ _ _ hm
  have lt1 : ∀ x ∈ p1, x.block < W.heap.size := by obtain ⟨m, hm⟩ := h1; exact DataW.trod_lt m _ _ _ hm
  have lt2 : ∀ x ∈ p2, x.block < W.heap.size := by obtain ⟨m, hm⟩ := h2; exact DataW.trod_lt m _ _ _ hm
  clear hA0 hval0
  refine ((lawRt_fn x0 x1 (sL b2)).calls (fun _ => True) W _ (errHere hL) (fun _ _ => trivial) rfl ?_).mono fun e W' ⟨v, he, hv, bel⟩ => ?_
  · intro j v av hj hav
    match j, hj, hav with
    | 0, hj, hav => cases hj; cases hav; exact s0
    | 1, hj, hav => cases hj; cases hav; exact s1
    | 2, hj, hav => cases hj; cases hav; exact s2
    | j + 3, hj, hav => simp at hav
  · obtain rfl := ra_true hv
    subst he
    exact ⟨_, rfl, _, _, _, [], _, [], hW', trodAll_mk1 (shut_bool Tryz.underlying4 _), (trodAll_cons_mk (Below.trod laidOut (by kernel_rfl) (of_decide_eq_true (by kernel_rfl)) h0 bel lt0) (trodAll_cons_mk (Below.trod laidOut (by kernel_rfl) (of_decide_eq_true (by kernel_rfl)) h1 bel lt1) (trodAll_cons_mk (Below.trod laidOut (by kernel_rfl) (of_decide_eq_true (by kernel_rfl)) h2 bel lt2) trodAll_mk0))), rfl, bel.frame _, fun h => by cases h⟩
theorem over : Rows.tableRoundTripRow.holds Tryz.pinned (OpenSpec.ofChange Rows.tableRoundTripSpec) :=
  OpenClaim.holds_of_wide 4 Tryz.f4 rfl rfl rfl rfl rfl rfl rfl ⟨rfl, rfl, rfl, rfl, rfl⟩ rfl rfl rfl rfl rfl (by kernel_rfl) Tryz.func4 (by kernel_rfl)
    (of_decide_eq_true (by kernel_rfl)) (by unfold Func.isWrapper; first | (rw [if_pos (by decide +kernel)]; kernel_rfl) | (rw [if_neg (by decide +kernel)]; exact ⟨rfl, rfl⟩))
    (fun os started H enc _ => lifted os started H enc)
set_option maxRecDepth 100000 in
theorem proved : Rows.TableRoundTripCardSaid :=
  Claim7.holds_tied_plain_at .later [] [.data, .data, .data, .sentinel, .sentinel] true (true, "0ece976bdfb03ccaad2ced6d24e0ca89ff43059ee33ad792ea19b17f3b6203ec") true
    over (fun _ h => by cases h) (by kernel_rfl) (fun _ h => by cases h) tableRoundTrip_row_tie rfl ⟨rfl, rfl⟩ (by kernel_rfl) rfl
    (fun f fn hf hfn => by
      obtain rfl : f = 4 := Option.some.inj ((show Tryz.prog.funcNamed "armature/armaturelaw34.TableRoundTrip" = some 4 by kernel_rfl).symm.trans hf) |>.symm
      obtain rfl : fn = Tryz.f4 := (Option.some.inj (Tryz.func4.symm.trans hfn)).symm
      exact ⟨by kernel_rfl, fun j t ht => by
        rw [Tryz.params4] at ht
        have hm : t ∈ [27, 33, 9] := by simpa using Array.mem_of_getElem? ht
        have hall : ([27, 33, 9].all fun u => !Tryz.prog.wantsStandIn u) = true := by kernel_rfl
        exact (show Tryz.prog.wantsStandIn t = false by simpa using List.all_eq_true.1 hall t hm)⟩)
    (by kernel_rfl)
#print axioms proved
end Go.Proofs.YtijkecidjjicbaaGreatDoor.Law2
