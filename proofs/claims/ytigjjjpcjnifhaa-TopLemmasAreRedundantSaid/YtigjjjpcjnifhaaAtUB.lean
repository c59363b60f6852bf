/- The solver: the search, walked. -/
import Derived.Test.YtigjjjpcjnifhaaAtB8
import Derived.Test.YtigjjjpcjnifhaaAbZ
import Derived.Test.YtigjjjpcjnifhaaAbL3
import Derived.Test.YtigjjjpcjnifhaaAtS5
import Derived.Test.YtigjjjpcjnifhaaAbL4
import Derived.Test.YtigjjjpcjnifhaaAbL2
import Derived.Test.YtigjjjpcjnifhaaAtC3
import Derived.Test.YtigjjjpcjnifhaaAtA3
import Derived.Test.YtigjjjpcjnifhaaAtS7
set_option linter.unusedSimpArgs false
set_option linter.unusedVariables false
namespace Go.Ab
open Go Go.Proofs
open Nat (reduceAdd reduceSub)
set_option maxRecDepth 20000
set_option maxHeartbeats 8000000
attribute [local irreducible] hrow AW AOps thenD inBlockD AR iterEnds roundEndsN inlEnds noGotoD EndsX EndsQ idxI
theorem undoU_fn (n:Nat) (s:SR) (t:Nat) (ht:t<s.marks.length) (hn:n≤20000) (hv:s.value.length=n+1) (trl:TrlOk n (s.ll 0)) (mk:∀m∈s.marks,0≤m∧m.toNat≤(s.ll 0).length) (hlw:0≤s.low∧s.low≤1000000):FnX Try.prog 37 11 (SOb s) [.ptr 0 0,litI t] (SOb (undoS s t)) (.tup []):=by
 have hl:=trl.len
 exact undo_fn s (backS s t) t (back1_fn s t ht (mk _ (List.getElem_mem ht)) (by omega) hlw fun x hx=>by
  obtain⟨_,_,_⟩:=trl.rng x hx
  refine⟨by omega,?_⟩
  rw[hv]
  unfold varN;omega)
theorem undo0_fn (n:Nat) (s:SR) (hs:SInv n s) (hlw:LowOk n s):∃s':SR,FnX Try.prog 37 11 (SOb s) [.ptr 0 0,litI 0] (SOb s') (.tup [])∧s'.proof=s.proof∧s'.model=s.model∧s'.core=s.core:=by
 by_cases h:0<s.marks.length
 ·refine⟨undoS s 0,?_,rfl,rfl,rfl⟩
  obtain⟨k,q1,q2,q3,_⟩:=hlw
  have hn:=hs.hn
  exact undoU_fn n s 0 h hs.hn (by rw[hs.val,valV_len]) hs.trl (fun m hm=>by have:=hs.mrk m hm;have:=hs.hd;omega) (by omega)
 ·refine⟨headS s,undo_fn s s 0 (back0_fn s 0 (by omega)),rfl,rfl,rfl⟩
theorem solve_fn (n:Nat) (F:List (List Int)) (k:Nat) (s:SR) (hS:SNew n F k s) (hk:k≤60000) (A:List Int) (hA:∀x∈A,Lit n x) (hAl:A.length≤50000) (fuel:Nat) (hf0:0<fuel) (hf1:fuel≤20000):FnR Try.prog 19 11 (SOb s) [.ptr 0 0,.pv (nums A),litI (fuel:Nat)] (fun q:SR×Int=>SolveOut n F A fuel q.1 q.2) (fun q=>SOb q.1) (fun q=>litI q.2):=by
 have hJ0:=hS.sj (A:=A) hf0
 obtain⟨s1,hs1⟩:∃s1,s1={s with core:=[],model:=[]}:=⟨_,rfl⟩
 have hbox:SOb {s with core:=[],model:=[]}=SOb s1:=by rw[hs1]
 rw[← hs1] at hJ0
 have hi0:=hJ0.si.inv
 have hnn:=hi0.hn
 have hval:=valid_fn n s1 A hnn (by rw[hi0.val,valV_len]) hA
 have hmk0:s1.marks=[]:=by rw[hs1];exact hS.marks
 have hun:=undo_fn s1 s1 0 (back0_fn s1 0 (by rw[hmk0];simp))
 rw[headS_id hi0] at hun
 simp only[SOb,SBox] at hval hun ⊢
 refine FnR.enter (n:=151) Try.func19 rfl rfl rfl rfl rfl (by decide) rfl (fun _=>rfl) fun g hro_ hwt_=>?_;refine Q25 ?_
 refine AW.len_map 1 rfl fun hlen=>?_
 (refine zq ?_;refine Q11 ?_;refine AW.scope ?_;refine Q40 ?_;refine Q50 ?_;refine AOps.fieldAddrN 67 9 14 rfl rfl rfl rfl ?_;(with_reducible apply AOps.store_b1);(iterate 5 exact rfl);(first|exact rfl|assumption|exact o1_ _|exact o2_ _ _|exact o3_ _|exact o4_ _ _);(iterate 3 exact rfl);(with_reducible assumption);refine Q306 ?_;refine AOps.fieldAddrN 67 8 13 rfl rfl rfl rfl ?_;(with_reducible apply AOps.store_b1);(iterate 5 exact rfl);(first|exact rfl|assumption|exact o1_ _|exact o2_ _ _|exact o3_ _|exact o4_ _ _);(iterate 3 exact rfl);(with_reducible assumption);refine Q206 ?_;refine zo ?_;refine AW.stopS 2 ?_)
 refine Stop.go ?_
 refine AW.weak (δ':=⟨151,[(0,.ptr 0 0),(1,.pv (nums A)),(2,litI (fuel:Nat)),(1000,.agg [.ptr 0 0])],SOb s1,11⟩) ?_ ?_
 ·subst hs1
  exact weak rfl (by(refine⟨.eq rfl rfl,?_⟩;refine⟨.pvE (by rfl),?_⟩;refine⟨.litE (by rfl),?_⟩;refine⟨.eq rfl rfl,?_⟩;exact trivial)) (by(refine⟨.box _ rfl ?_,?_⟩;(iterate 3 refine⟨.ownE (by rfl) rfl,?_⟩);refine⟨.litE (by rfl),?_⟩;refine⟨.ownE (by rfl) rfl,?_⟩;refine⟨.litE (by rfl),?_⟩;(iterate 2 refine⟨.ownE (by rfl) rfl,?_⟩);(iterate 3 refine⟨.litE (by rfl),?_⟩);refine⟨.ownE (by rfl) rfl,?_⟩;refine⟨.litE (by rfl),?_⟩;(iterate 2 refine⟨.nilpvE (by first|rfl),?_⟩);exact trivial;(iterate 3 refine⟨.row rfl,?_⟩);refine⟨.pool rfl (by rfl),?_⟩;(iterate 2 refine⟨.row rfl,?_⟩);refine⟨.pool rfl (by rfl),?_⟩;refine⟨.row rfl,?_⟩;refine⟨.pool rfl (by rfl),?_⟩;refine⟨.row rfl,?_⟩;exact trivial)) rfl
 simp only[SOb,SBox]
 have hf0':¬(fuel:Int)≤0:=by omega
 (refine Q181 ?_;refine zm ?_;refine zX (hval) ?_;refine Q87 ?_;refine Q328 ?_;refine Q91 ?_;refine AOps.leq rfl rfl rfl rfl rfl ?_;refine AOps.pick_lf rfl rfl rfl rfl rfl rfl ?_;refine Q116 ?_;refine Q168 ?_;refine zX (hun) ?_;refine Q87 ?_;refine zd ?_;refine Q173 ?_;refine AW.label ?_;refine thenD_n ?_;refine zo ?_;refine AW.block ?_)
 (refine Q0 ?_;apply AW.loopR [0,1,2,1000] [1,2,3,5,6,8,10] (fun q:SR×Nat=>([(7,litI (q.2:Nat))]:List (Nat×AV))) (fun q:SR×Nat=>([(0,some (.box [.own 1 3 1 ((q.1.value).map encI),.own 2 3 1 ((q.1.level).map encI),.own 3 3 1 ((q.1.reason).map encI),.pv (.lit (q.1.hl 0)),.own 5 3 1 ((q.1.marks).map encI),litI (q.1.low),.own 6 28 1 (hrow q.1.nc q.1.hc),.own 8 28 1 (hrow q.1.nw q.1.hw),litI (q.1.head),litI (q.1.added),litB (q.1.broken),.own 10 30 3 ((q.1.proof).map encJ),litI 0,.pv (nums (q.1.model)),.pv (nums (q.1.core))])),(4,some (.pool 3 (plI q.1.hl q.1.ll))),(7,some (.pool 3 (plI q.1.hc q.1.cl))),(9,some (.pool 3 (plI q.1.hw q.1.wl)))]:List (Nat×Option Ob))) (fun q:SR×Nat=>SJ n F A k fuel q.1 q.2) (fun q:SR×Nat=>(fuel - q.2)*(A.length+n+2)+(A.length - q.1.marks.length)+(n - (q.1.ll 0).length)) ((s1,0));(conv=>lhs;simp only[Nf.lpR,Nf.all,Nat.reduceBEq,reduceAdd,reduceSub]);(all_goals skip))
 ·exact hJ0
 ·exact weak rfl (by(refine⟨.litE (by rfl),?_⟩;refine⟨.eq rfl rfl,?_⟩;refine⟨.pvE (by rfl),?_⟩;refine⟨.litE (by rfl),?_⟩;refine⟨.eq rfl rfl,?_⟩;exact trivial)) (by(refine⟨.box _ rfl ?_,?_⟩;(iterate 3 refine⟨.ownE (by rfl) rfl,?_⟩);refine⟨.litE (by rfl),?_⟩;refine⟨.ownE (by rfl) rfl,?_⟩;refine⟨.litE (by rfl),?_⟩;(iterate 2 refine⟨.ownE (by rfl) rfl,?_⟩);(iterate 3 refine⟨.litE (by rfl),?_⟩);refine⟨.ownE (by rfl) rfl,?_⟩;refine⟨.litE (by rfl),?_⟩;(iterate 2 refine⟨.pvE (by rfl),?_⟩);exact trivial;(iterate 3 refine⟨.pool rfl (by rfl),?_⟩);(iterate 7 refine⟨.row rfl,?_⟩);exact trivial)) rfl
 rintro⟨σ,met⟩ hσ
 simp only at hσ
 have hsi:=hσ.si.inv
 have hmf:=hσ.mf
 obtain⟨hpl,hp3⟩:=hσ.plen
 have hml:=hσ.lv.len hsi
 have hP:=propagate_fn n σ hsi (by omega)
 have hpl':¬(20000:Int)≤(σ.proof.length:Int):=by omega
 simp only[SOb,SBox] at hP
 (refine AW.block ?_;refine zo ?_;refine Q40 ?_;refine Q12 ?_;refine AOps.fieldAddrN 67 6 11 rfl rfl rfl rfl ?_;refine zb ?_;refine AOps.len_own_map rfl rfl rfl rfl ?_;refine AOps.geq rfl rfl rfl rfl rfl ?_;refine Q116 ?_;refine Q168 ?_;(with_reducible apply AOps.callR (hf:=hP));(with_reducible assumption);(iterate 3 exact rfl);(repeat (first|exact trivial|refine⟨rfl,?_⟩));(repeat (first|exact .nil|(refine .cons ?_ ?_;(first|exact .eq rfl rfl|exact .nil _|exact .any _))));(intro x_;exact rfl);exact rfl;(repeat (first|exact trivial|refine⟨rfl,?_⟩|refine⟨obIds_set,?_⟩));(intro x_;(repeat (first|exact trivial|refine⟨rfl,?_⟩|refine⟨obIds_set,?_⟩)));(intro x_;exact rfl);exact rfl;(intro x_ hx_);refine Q87 ?_;refine Q271 ?_;refine AW.stopS 14 ?_)
 obtain⟨τ,r⟩:=x_
 have hτ:=hσ.prop hx_
 have hti:=hτ.si.inv
 have htm:=hx_.ext.marks
 have htl:(σ.ll 0).length≤(τ.ll 0).length:=by obtain⟨ys,e⟩:=hx_.ext.ll;rw[e,List.length_append];omega
 have hres:=hx_.res
 have hll:=hti.trl.len
 have hnc:=hti.nc
 have hvv:τ.value.length=n+1:=by rw[hti.val,valV_len]
 obtain⟨hpl2,_⟩:=hτ.plen
 have hml2:=hτ.lv.len hti
 simp only at hτ hti htm htl hres hll hnc hvv hpl2 hml2 ⊢
 refine Stop.go ?_
 by_cases hbr:τ.broken=true∨(r≠ -1∧τ.marks=[])
 ·have hconf:Conf (F++τ.proof) NoA:=by
   rcases hbr with q|⟨q1,q2⟩
   ·exact hτ.si.sem.bad q
   ·rcases hres with ⟨q,_⟩|⟨j,hj,_,hf⟩
    ·exact absurd q q1
    ·exact hτ.si.sem.conf0 hti q2 hj hf
  have hend:=end_fn {τ with broken:=true} [] (by simp) (fun x hx=>by simp at hx) (by show τ.proof.length≤_;omega)
  have hout:=hτ.out0 (t:={τ with broken:=true,core:=[],proof:=τ.proof++ [([]:List Int).map fun y=> -y]}) hf1 hconf rfl rfl hτ.model
  simp only[SOb,SBox] at hend
  cases hb1:τ.broken with
  |true=>
   (refine Q40 ?_;refine Q212 ?_;refine Q130 ?_;(iterate 3 refine AOps.guard_lf rfl rfl rfl rfl rfl rfl rfl ?_);(iterate 7 refine AOps.guard_u rfl rfl rfl rfl rfl rfl ?_);refine Q141 ?_;refine Q11 ?_;refine AW.cond_lt rfl rfl ?_;refine Q40 ?_;refine Q212 ?_;(with_reducible apply AOps.store_b1);(iterate 5 exact rfl);(first|exact rfl|assumption|exact o1_ _|exact o2_ _ _|exact o3_ _|exact o4_ _ _);(iterate 3 exact rfl);(with_reducible assumption);refine Q293 ?_)
   (apply endsQ_ret ((({τ with broken:=true,core:=[],proof:=τ.proof++ [([]:List Int).map fun y=> -y]},2):SR×Int)) (hout);((exact Res.one (.tmp rfl rfl)));((exact Q76));((exact Q2));exact rfl)
  |false=>
   rw[hb1] at hbr
   obtain⟨hr1,hm0⟩:=hbr.resolve_left (by simp)
   have hr1':decide (r≠ -1)=true:=by simpa using hr1
   have hm0':(τ.marks.length:Int)=0:=by rw[hm0];rfl
   (refine Q40 ?_;refine Q212 ?_;refine Q130 ?_;refine Q91 ?_;refine AOps.neq rfl rfl rfl rfl rfl ?_;refine zl ?_;refine zm ?_;refine Q128 ?_;refine AOps.fieldAddrN 65 4 4 rfl rfl rfl rfl ?_;refine zt ?_;refine zb ?_;refine zt ?_;refine AOps.len_own_map rfl rfl rfl rfl ?_;refine zt ?_;refine AOps.eql rfl rfl rfl rfl rfl ?_;refine zl ?_;refine zT ?_;refine AOps.pick_lf rfl rfl rfl rfl rfl rfl ?_;refine Q11 ?_;refine zc ?_;refine Q40 ?_;refine Q212 ?_;(with_reducible apply AOps.store_b1);(iterate 5 exact rfl);(first|exact rfl|assumption|exact o1_ _|exact o2_ _ _|exact o3_ _|exact o4_ _ _);(iterate 3 exact rfl);(with_reducible assumption);refine Q293 ?_)
   (apply endsQ_ret ((({τ with broken:=true,core:=[],proof:=τ.proof++ [([]:List Int).map fun y=> -y]},2):SR×Int)) (hout);((exact Res.one (.tmp rfl rfl)));((exact Q76));((exact Q2));exact rfl)
 ·have hb1:τ.broken=false:=by
   cases h:τ.broken with
   |true=>exact absurd (.inl h) hbr
   |false=>rfl
  rcases hres with ⟨rfl,hhd⟩|⟨j,hj,rfl,hf⟩
  ·by_cases hlt:τ.marks.length<A.length
   ·have hil:((τ.marks.length:Nat):Int).toNat<A.length:=by rw[Int.toNat_natCast];exact hlt
    obtain⟨x,hx⟩:∃x,x=A[τ.marks.length]:=⟨_,rfl⟩
    have hx':A[τ.marks.length]=x:=hx.symm
    have hxA:x∈A:=by rw[hx];exact List.getElem_mem hlt
    have hxl:=hA x hxA
    by_cases hx1:x∈τ.ll 0
    ·have hof:=of_lit (s:=τ) hti.val hti.trl hnn hxl (r:=1) (if_pos hx1).symm
     have hd0:=decide0_fn τ (by omega) (by omega)
     have hnx:=hτ.dec0 hhd hlt (by rw[hx'];exact hx1)
     simp only[SOb,SBox] at hof hd0
     (refine Q34 ?_;refine zc ?_;refine Q202 ?_;refine Q41 ?_;refine Q105 ?_;(focus ((with_reducible apply AOps.index_map);(iterate 7 exact rfl);rotate_left;omega));refine zr ?_;refine Q11 ?_;(with_reducible apply AW.atS 25);(rw[← hx]);refine Q320 ?_;refine AW.cond_lf rfl rfl ?_;refine Q40 ?_;refine Q192 ?_;refine AW.cond_lt rfl rfl ?_;refine Q177 ?_;refine Q41 ?_;refine zX (hd0) ?_;refine Q87 ?_;refine AOps.nil ?_;(iterate 3 refine inBlockD_n ?_);refine thenD_n ?_)
     exact⟨(markS τ,met),hnx,by show(fuel - met)*(A.length+n+2)+(A.length - (τ.marks++ [_]).length)+(n - (τ.ll 0).length)<(fuel - met)*(A.length+n+2)+(A.length - σ.marks.length)+(n - (σ.ll 0).length);rw[List.length_append,List.length_singleton,← htm];omega,weak rfl (by(refine⟨.litE (by rfl),?_⟩;refine⟨.eq rfl rfl,?_⟩;refine⟨.pvE (by rfl),?_⟩;refine⟨.litE (by rfl),?_⟩;refine⟨.eq rfl rfl,?_⟩;exact trivial)) (by(refine⟨.box _ rfl ?_,?_⟩;(iterate 3 refine⟨.ownE (by rfl) rfl,?_⟩);refine⟨.litE (by rfl),?_⟩;refine⟨.ownE (by rfl) rfl,?_⟩;refine⟨.litE (by rfl),?_⟩;(iterate 2 refine⟨.ownE (by rfl) rfl,?_⟩);(iterate 3 refine⟨.litE (by rfl),?_⟩);refine⟨.ownE (by rfl) rfl,?_⟩;refine⟨.litE (by rfl),?_⟩;(iterate 2 refine⟨.pvE (by rfl),?_⟩);exact trivial;(iterate 3 refine⟨.pool rfl (by rfl),?_⟩);(iterate 7 refine⟨.row rfl,?_⟩);exact trivial)) rfl⟩
    ·by_cases hx2: -x∈τ.ll 0
     ·have hof:=of_lit (s:=τ) hti.val hti.trl hnn hxl (r:= -1) (by rw[if_neg hx1,if_pos hx2])
      have hbl:=blame_fn n τ hti x hx2
      obtain⟨s4,hu4,f1,f2,f3⟩:=undo0_fn n τ hti hτ.si.low
      simp only[SOb,SBox] at hof hbl hu4
      (refine Q34 ?_;refine zc ?_;refine Q202 ?_;refine Q41 ?_;refine Q105 ?_;(focus ((with_reducible apply AOps.index_map);(iterate 7 exact rfl);rotate_left;omega));refine zr ?_;refine Q11 ?_;(with_reducible apply AW.atS 25);(rw[← hx]);refine Q320 ?_;refine AW.cond_lt rfl rfl ?_;refine Q168 ?_;refine zm ?_;(with_reducible apply AOps.callR (hf:=hbl));(with_reducible assumption);(iterate 3 exact rfl);(repeat (first|exact trivial|refine⟨rfl,?_⟩));(repeat (first|exact .nil|(refine .cons ?_ ?_;(first|exact .eq rfl rfl|exact .nil _|exact .any _))));(intro x_;exact rfl);exact rfl;(repeat (first|exact trivial|refine⟨rfl,?_⟩|refine⟨obIds_set,?_⟩));(intro x_;(repeat (first|exact trivial|refine⟨rfl,?_⟩|refine⟨obIds_set,?_⟩)));(intro x_;exact rfl);exact rfl;(intro x_ hx_);refine Q87 ?_;refine Q11 ?_;refine Q168 ?_;refine zX (hu4) ?_;refine Q87 ?_;refine zd ?_;refine AW.stopS 30 ?_)
      refine Stop.go ?_
      have hbo:=hx_
      obtain⟨_,_,hcl⟩:=hbo.core hτ.si hlt hxA hx2
      have hclen:x_.length≤100000:=by
       have:=nodup_leI (n:=2*n+2) (l:=x_.map idxI) (by
        unfold List.Nodup
        rw[List.pairwise_map]
        exact(hbo.core hτ.si hlt hxA hx2).2.1.imp_of_mem fun {a b} ha hb hab e=>hab (idxI_inj (hcl a ha) (hcl b hb) (by rw[e]))) fun v hv=>by
        obtain⟨a,ha,rfl⟩:=List.mem_map.1 hv
        have:=idxI_lt (hcl a ha)
        omega
       simp only[List.length_map] at this
       omega
      have hend:=end_fn s4 x_ hclen (fun y hy=>by obtain⟨_,_,_⟩:=hcl y hy;omega) (by rw[f1];omega)
      have hout:=hτ.outB (t:={s4 with core:=x_,proof:=s4.proof++ [x_.map fun y=> -y]}) hf1 hbo hlt hxA hx2 (by show s4.proof++_=_;rw[f1]) rfl (by show s4.model=_;rw[f2];exact hτ.model)
      simp only[SOb,SBox] at hend
      (refine Q181 ?_;refine zm ?_;refine zX (hend) ?_;refine Q87 ?_;refine Q28 ?_;(iterate 3 refine inBlockD_ret ?_);refine Q200 ?_;refine thenD_ret ?_;refine noGotoD_ret ?_)
      (apply endsQ_ret ((({s4 with core:=x_,proof:=s4.proof++ [x_.map fun y=> -y]},2):SR×Int)) (hout);((exact Res.one (.tmp rfl rfl)));((exact Q76));((exact Q2));exact rfl)
     ·have hof:=of_lit (s:=τ) hti.val hti.trl hnn hxl (r:=0) (by rw[if_neg hx1,if_neg hx2])
      obtain⟨g1,g2,g3⟩:=hxl
      have hd1:=decide1_fn τ x g1 (by omega) (by omega) (by rw[hti.lvl,hvv]) (by rw[hti.rsn,hvv]) (by omega) (by omega)
      have hnx:=fun h:Value=>hτ.decA hhd hlt (by rw[hx'];exact hA x hxA) (by rw[hx'];exact hx1) (by rw[hx'];exact hx2) h
      rw[hx'] at hnx
      have hlen:=(hnx (.bool true)).si.inv.trl.len
      rw[ll_push,List.length_append,List.length_singleton] at hlen
      simp only[SOb,SBox] at hof hd1
      (refine Q34 ?_;refine zc ?_;refine Q202 ?_;refine Q41 ?_;refine Q105 ?_;(focus ((with_reducible apply AOps.index_map);(iterate 7 exact rfl);rotate_left;omega));refine zr ?_;refine Q11 ?_;(with_reducible apply AW.atS 25);(rw[← hx]);refine Q320 ?_;refine AW.cond_lf rfl rfl ?_;refine Q40 ?_;refine Q192 ?_;refine AW.cond_lf rfl rfl ?_;refine Q177 ?_;refine Q316 ?_;(with_reducible apply AOps.callR (hf:=hd1));(with_reducible assumption);(iterate 3 exact rfl);(repeat (first|exact trivial|refine⟨rfl,?_⟩));(repeat (first|exact .nil|(refine .cons ?_ ?_;(first|exact .eq rfl rfl|exact .nil _|exact .any _))));(intro x_;exact rfl);exact rfl;(repeat (first|exact trivial|refine⟨rfl,?_⟩|refine⟨obIds_set,?_⟩));(intro x_;(repeat (first|exact trivial|refine⟨rfl,?_⟩|refine⟨obIds_set,?_⟩)));(intro x_;exact rfl);exact rfl;(intro x_ hx_);refine Q87 ?_;refine AOps.nil ?_;(iterate 3 refine inBlockD_n ?_);refine thenD_n ?_)
      exact⟨(pushS (markS τ) x (-1) x_,met),hnx x_,by show(fuel - met)*(A.length+n+2)+(A.length - (τ.marks++ [_]).length)+(n - ((pushS (markS τ) x (-1) x_).ll 0).length)<(fuel - met)*(A.length+n+2)+(A.length - σ.marks.length)+(n - (σ.ll 0).length);rw[ll_push,List.length_append,List.length_append,List.length_singleton,List.length_singleton,← htm];have:(markS τ).ll 0=τ.ll 0:=rfl;rw[this];omega,weak rfl (by(refine⟨.litE (by rfl),?_⟩;refine⟨.eq rfl rfl,?_⟩;refine⟨.pvE (by rfl),?_⟩;refine⟨.litE (by rfl),?_⟩;refine⟨.eq rfl rfl,?_⟩;exact trivial)) (by(refine⟨.box _ rfl ?_,?_⟩;(iterate 3 refine⟨.ownE (by rfl) rfl,?_⟩);refine⟨.litE (by rfl),?_⟩;refine⟨.ownE (by rfl) rfl,?_⟩;refine⟨.litE (by rfl),?_⟩;(iterate 2 refine⟨.ownE (by rfl) rfl,?_⟩);(iterate 3 refine⟨.litE (by rfl),?_⟩);refine⟨.ownE (by rfl) rfl,?_⟩;refine⟨.litE (by rfl),?_⟩;(iterate 2 refine⟨.pvE (by rfl),?_⟩);exact trivial;(iterate 3 refine⟨.pool rfl (by rfl),?_⟩);(iterate 7 refine⟨.row rfl,?_⟩);exact trivial)) rfl⟩
   ·obtain⟨k0,q1,q2,q3,_⟩:=id hτ.si.low
    have hfr:=free_fn τ k0 q1 (by omega) (by omega)
    by_cases hfe:lowF τ.value k0=τ.value.length
    ·rw[if_pos hfe] at hfr
     have hfull:=hτ.full q1 hfe
     have hi2:SInv n {τ with low:=(lowF τ.value k0:Int),model:=τ.value}:={hn:=hti.hn,trl:=hti.trl,val:=hti.val,lvl:=hti.lvl,rsn:=hti.rsn,hd:=hti.hd,mrk:=hti.mrk,lev:=hti.lev,cls:=hti.cls,fresh:=hti.fresh,nc:=hti.nc,nw:=hti.nw,wt:=hti.wt,wnd:=hti.wnd,wto:=hti.wto,two:=hti.two,srt:=hti.srt,rea:=hti.rea}
     have hlo:LowOk n {τ with low:=(lowF τ.value k0:Int),model:=τ.value}:=⟨n+1,by show(lowF τ.value k0:Int)=_;rw[hfe,hvv],by omega,by omega,fun u h1 h2=>hfull u h1 (by omega)⟩
     obtain⟨s4,hu4,f1,f2,f3⟩:=undo0_fn n _ hi2 hlo
     have hout:=hτ.outS (t:=s4) hf1 hb1 hhd (by omega) hfull f1 (by rw[f3];exact hτ.core) f2
     simp only[SOb,SBox] at hfr hu4
     have hvp:0<(τ.value.map encI).length:=by rw[List.length_map];omega
     (refine Q34 ?_;refine zk ?_;refine Q40 ?_;refine Q41 ?_;refine zX (hfr) ?_;refine Q87 ?_;refine Q61 ?_;refine Q202 ?_;refine AOps.eql rfl rfl rfl rfl rfl ?_;refine Q43 ?_;refine Q40 ?_;(iterate 2 refine AOps.move_ptr rfl rfl rfl ?_);refine Q9 ?_;refine AOps.fieldAddrN 65 0 0 rfl rfl rfl rfl ?_;refine zb ?_;(with_reducible apply AOps.inline (hf:=Try.func45));(with_reducible assumption);(iterate 10 exact rfl);intro g_ hro_ hwt_;refine Q0 ?_;refine Q173 ?_;refine Q124 ?_;(with_reducible apply AOps.own_eqnil);(iterate 6 exact rfl);(with_reducible assumption);(try (conv=>rhs;simp only[Nf.s1R,Nf.all,Nat.reduceBEq,reduceAdd,reduceSub]));refine Q67 ?_;refine Q37 ?_;refine zq ?_;refine AOps.bs0 rfl rfl rfl rfl rfl ?_;refine Q0 ?_;refine AOps.move_own rfl rfl rfl ?_;(with_reducible apply AOps.appendS);exact rfl;(first|exact .pv rfl|exact .own rfl|exact .nil rfl);(iterate 9 exact rfl);(first|omega|(simp only[List.length_map,List.length_append,List.length_cons,List.length_nil,List.length_drop,List.length_take,List.length_set,List.length_range,chunk_len];omega));refine Q0 ?_;refine Q269 ?_;refine inlEnds_rown rfl rfl ?_;refine Q306 ?_;refine AOps.fieldAddrN 67 8 13 rfl rfl rfl rfl ?_;(with_reducible apply AOps.store_b1);(iterate 5 exact rfl);(first|exact rfl|assumption|exact o1_ _|exact o2_ _ _|exact o3_ _|exact o4_ _ _);(iterate 3 exact rfl);(with_reducible assumption);refine Q206 ?_;refine AW.stopS 11 ?_)
     refine Stop.go ?_
     refine AW.frzI 11 rfl ?_
     (try (conv=>rhs;simp only[Nf.s1R,Nf.all,Nat.reduceBEq,reduceAdd,reduceSub]))
     (refine Q181 ?_;refine zX (hu4) ?_;refine Q87 ?_;refine zd ?_;refine zq ?_;refine Q153 ?_;(iterate 2 refine inBlockD_ret ?_);refine Q200 ?_;refine thenD_ret ?_;refine noGotoD_ret ?_)
     (apply endsQ_ret (((s4,1):SR×Int)) (hout);((exact Res.one (.tmp rfl rfl)));((exact Q76));((exact Q2));exact rfl)
    ·rw[if_neg hfe] at hfr
     obtain⟨v,e,g1,g2,g3,g4,g5,hJ2⟩:=hτ.free q1 hfe
     rw[e] at hfr
     have hv0:¬(v:Int)=0:=by omega
     have hd1:=decide1_fn {τ with low:=(v:Int)} (-(v:Int)) (by omega) (by omega) (by show _<(τ.value.length:Int)∧_<(τ.value.length:Int);omega) (by show τ.level.length=τ.value.length;rw[hti.lvl,hvv]) (by show τ.reason.length=τ.value.length;rw[hti.rsn,hvv]) (by show(τ.ll 0).length≤_;omega) (by show τ.marks.length≤_;omega)
     have hnx:=fun h:Value=>hJ2.decF hhd (by show A.length≤τ.marks.length;omega) g1 g2 g3 g4 g5 h
     have hlen:=(hnx (.bool true)).si.inv.trl.len
     rw[ll_push,List.length_append,List.length_singleton] at hlen
     have hlen:(τ.ll 0).length+1≤n:=hlen
     simp only[SOb,SBox] at hfr hd1
     (refine Q34 ?_;refine zk ?_;refine Q40 ?_;refine Q41 ?_;refine zX (hfr) ?_;refine Q87 ?_;refine Q61 ?_;refine Q202 ?_;refine Q224 ?_;refine Q177 ?_;refine Q316 ?_;refine AOps.neg rfl rfl rfl (by omega) ?_;(with_reducible apply AOps.callR (hf:=hd1));(with_reducible assumption);(iterate 3 exact rfl);(repeat (first|exact trivial|refine⟨rfl,?_⟩));(repeat (first|exact .nil|(refine .cons ?_ ?_;(first|exact .eq rfl rfl|exact .nil _|exact .any _))));(intro x_;exact rfl);exact rfl;(repeat (first|exact trivial|refine⟨rfl,?_⟩|refine⟨obIds_set,?_⟩));(intro x_;(repeat (first|exact trivial|refine⟨rfl,?_⟩|refine⟨obIds_set,?_⟩)));(intro x_;exact rfl);exact rfl;(intro x_ hx_);refine Q87 ?_;refine AOps.nil ?_;(iterate 2 refine inBlockD_n ?_);refine thenD_n ?_)
     exact⟨(pushS (markS {τ with low:=(v:Int)}) (-(v:Int)) (-1) x_,met),hnx x_,by show(fuel - met)*(A.length+n+2)+(A.length - (τ.marks++ [_]).length)+(n - ((pushS (markS {τ with low:=(v:Int)}) (-(v:Int)) (-1) x_).ll 0).length)<(fuel - met)*(A.length+n+2)+(A.length - σ.marks.length)+(n - (σ.ll 0).length);rw[ll_push,List.length_append,List.length_append,List.length_singleton,List.length_singleton,← htm];have:(markS {τ with low:=(v:Int)}).ll 0=τ.ll 0:=rfl;rw[this];omega,weak rfl (by(refine⟨.litE (by rfl),?_⟩;refine⟨.eq rfl rfl,?_⟩;refine⟨.pvE (by rfl),?_⟩;refine⟨.litE (by rfl),?_⟩;refine⟨.eq rfl rfl,?_⟩;exact trivial)) (by(refine⟨.box _ rfl ?_,?_⟩;(iterate 3 refine⟨.ownE (by rfl) rfl,?_⟩);refine⟨.litE (by rfl),?_⟩;refine⟨.ownE (by rfl) rfl,?_⟩;refine⟨.litE (by rfl),?_⟩;(iterate 2 refine⟨.ownE (by rfl) rfl,?_⟩);(iterate 3 refine⟨.litE (by rfl),?_⟩);refine⟨.ownE (by rfl) rfl,?_⟩;refine⟨.litE (by rfl),?_⟩;(iterate 2 refine⟨.pvE (by rfl),?_⟩);exact trivial;(iterate 3 refine⟨.pool rfl (by rfl),?_⟩);(iterate 7 refine⟨.row rfl,?_⟩);exact trivial)) rfl⟩
  ·have hm0:0<τ.marks.length:=by
    apply Nat.pos_of_ne_zero
    intro h
    exact hbr (.inr ⟨by omega,List.eq_nil_of_length_eq_zero h⟩)
   have hm0':¬(τ.marks.length:Int)=0:=by omega
   have hr1':decide ((j:Int)≠ -1)=true:=by simp
   have han:=analyze_fn n τ hti j hj hf hm0 (by omega)
   simp only[SOb,SBox] at han
   (refine Q40 ?_;refine Q212 ?_;refine Q130 ?_;refine Q16 ?_;refine zm ?_;refine Q16 ?_;refine AOps.neq rfl rfl rfl rfl rfl ?_;refine Q16 ?_;refine zm ?_;refine Q84 ?_;refine AOps.fieldAddrN 67 0 0 rfl rfl rfl rfl ?_;refine zl ?_;refine AOps.fieldAddrN 65 4 4 rfl rfl rfl rfl ?_;refine zl ?_;refine zb ?_;refine zl ?_;refine AOps.len_own_map rfl rfl rfl rfl ?_;refine zl ?_;refine AOps.eql rfl rfl rfl rfl rfl ?_;refine Q16 ?_;refine AOps.pick_lt rfl rfl rfl rfl rfl rfl ?_;refine AOps.pickBf rfl rfl (by assumption) rfl rfl rfl rfl ?_;refine Q11 ?_;refine zk ?_;refine Q202 ?_;refine AOps.neq rfl rfl rfl rfl rfl ?_;refine Q11 ?_;refine AW.cond_lt rfl rfl ?_;refine Q168 ?_;refine zm ?_;(with_reducible apply AOps.callR (hf:=han));(with_reducible assumption);(iterate 3 exact rfl);(repeat (first|exact trivial|refine⟨rfl,?_⟩));(repeat (first|exact .nil|(refine .cons ?_ ?_;(first|exact .eq rfl rfl|exact .nil _|exact .any _))));(intro x_;exact rfl);exact rfl;(repeat (first|exact trivial|refine⟨rfl,?_⟩|refine⟨obIds_set,?_⟩));(intro x_;(repeat (first|exact trivial|refine⟨rfl,?_⟩|refine⟨obIds_set,?_⟩)));(intro x_;exact rfl);exact rfl;(intro x_ hx_);refine Q87 ?_;refine Q272 ?_;refine AW.stopS 19 ?_)
   refine Stop.go ?_
   obtain⟨v,l,to⟩:=x_
   obtain⟨hv1,hao⟩:=hx_
   simp only at hv1 hao ⊢
   obtain⟨hto,ht,_⟩:=hao.lvl hti hm0
   obtain⟨k0,q1,q2,q3,_⟩:=id hτ.si.low
   obtain⟨p0,rest0,ep,pl1,_,_,pnd,pl2,_⟩:=hao.back hti ⟨ht,‹_›⟩
   have hlitl:=hao.lits hti
   obtain⟨u,hu⟩:∃u,u=undoS ({τ with hc:=fset τ.hc τ.nc v,cl:=fset τ.cl τ.nc l}:SR) to.toNat:=⟨_,rfl⟩
   have hun2:=undoU_fn n ({τ with hc:=fset τ.hc τ.nc v,cl:=fset τ.cl τ.nc l}:SR) to.toNat ht hnn hvv hti.trl (fun m hm=>by have:=hti.mrk m hm;have:=hti.hd;show 0≤m∧m.toNat≤(τ.ll 0).length;omega) (by show 0≤τ.low∧τ.low≤1000000;omega)
   rw[← hu,Int.toNat_of_nonneg hto] at hun2
   have hucl:u.cl u.nc=l:=by rw[hu];exact fset_same _ _ _
   have huhc:u.hc u.nc=v:=by rw[hu];exact fset_same _ _ _
   have hunc:u.nc=τ.nc:=by rw[hu];rfl
   have hutl:(u.ll 0).length≤1000000:=by
    have e:u.ll 0=(τ.ll 0).take (τ.marks[to.toNat]).toNat:=by rw[hu];exact(undo_ll hti ht).1
    rw[e,List.length_take];omega
   have hum:u.marks.length≤1000000:=by
    have e:u.marks=τ.marks.take to.toNat:=by rw[hu];rfl
    rw[e,List.length_take];omega
   have hll2:l.length≤1000000:=by
    have:=nodup_leI (n:=2*n+2) (l:=l.map idxI) (by
     unfold List.Nodup
     rw[List.pairwise_map]
     exact pnd.imp_of_mem fun {a b} ha hb hab e=>hab (idxI_inj (hlitl a ha) (hlitl b hb) (by rw[e]))) fun v hv=>by
     obtain⟨a,ha,rfl⟩:=List.mem_map.1 hv
     have:=idxI_lt (hlitl a ha)
     omega
    simp only[List.length_map] at this
    omega
   have has:=assert_fn n u hnn (by rw[hucl,ep];simp) (by rw[hucl];exact hll2) (by rw[hucl];exact hlitl) (by rw[hucl];exact pnd) (by rw[hu];show(zeroV τ.value _).length=_;rw[zeroV_len];exact hvv) (by rw[hu];exact hti.lvl) (by rw[hu];exact hti.rsn) hutl hum (by rw[hu];show τ.proof.length≤_;omega) (by rw[hunc];omega) (by rw[hu];exact hti.nw) (fun x hx=>by rw[hu];have:=hti.wlen hx;show(τ.wl _).length≤_;omega)
   rw[huhc] at has
   simp only[SOb,SBox] at hun2 has
   (refine Q168 ?_;refine zm ?_;refine zX (hun2) ?_;refine Q87 ?_;refine zd ?_;refine Q181 ?_;refine zm ?_;(with_reducible apply AOps.callR (hf:=has));(with_reducible assumption);(iterate 3 exact rfl);(repeat (first|exact trivial|refine⟨rfl,?_⟩));(repeat (first|exact .nil|(refine .cons ?_ ?_;(first|exact .eq rfl rfl|exact .nil _|exact .any _))));(intro x_;exact rfl);exact rfl;(repeat (first|exact trivial|refine⟨rfl,?_⟩|refine⟨obIds_set,?_⟩));(intro x_;(repeat (first|exact trivial|refine⟨rfl,?_⟩|refine⟨obIds_set,?_⟩)));(intro x_;exact rfl);exact rfl;(intro x_ hx_);refine Q87 ?_;refine zd ?_;refine AW.stopS 21 ?_)
   refine Stop.go ?_
   obtain⟨hSI,hLV,hmo,hco,hnd⟩:=hτ.learn hao hm0 hj hf hk (by omega) (by rw[← hu];exact hx_)
   by_cases hge:fuel≤met+1
   ·have hge':(fuel:Int)≤(met:Int)+1:=by omega
    obtain⟨s4,hu4,f1,f2,f3⟩:=undo0_fn n x_ hSI.inv hSI.low
    have hout:=hSI.outU (t:=s4) hnd hf1 (by omega) f1 (by rw[f3];exact hco) (by rw[f2];exact hmo)
    simp only[SOb,SBox] at hu4
    (refine zq ?_;refine zm ?_;refine zj ?_;refine Q259 ?_;(iterate 2 refine zm ?_);refine AOps.geq rfl rfl rfl rfl rfl ?_;refine Q185 ?_;refine AW.exit ?_;(iterate 2 refine inBlockD_other rfl ?_);refine thenD_exit ?_;refine inBlockD_exit ?_;refine thenD_n ?_;refine Q168 ?_;refine zX (hu4) ?_;refine Q87 ?_;refine zd ?_;refine zq ?_;refine Q28 ?_;refine noGotoD_ret ?_)
    (apply endsQ_ret (((s4,0):SR×Int)) (hout);((exact Res.one (.tmp rfl rfl)));((exact Q76));((exact Q2));exact rfl)
   ·have hge':¬(fuel:Int)≤(met:Int)+1:=by omega
    have hmeas:(fuel - (met+1))*(A.length+n+2)+(A.length - x_.marks.length)+(n - (x_.ll 0).length)<(fuel - met)*(A.length+n+2)+(A.length - σ.marks.length)+(n - (σ.ll 0).length):=by
     obtain⟨d,hd⟩:∃d,fuel - met=d+1:=⟨fuel - met - 1,by omega⟩
     rw[show fuel - (met+1)=d by omega,hd,Nat.add_mul,Nat.one_mul]
     omega
    (refine zq ?_;refine zm ?_;refine zj ?_;refine Q259 ?_;(iterate 2 refine zm ?_);refine AOps.geq rfl rfl rfl rfl rfl ?_;refine Q307 ?_;refine AW.skip ?_;(iterate 2 refine inBlockD_n ?_);refine thenD_n ?_)
    exact⟨(x_,met+1),⟨hSI,hLV,hmo,hco,by omega,hnd⟩,hmeas,weak rfl (by(refine⟨.litE (by rfl),?_⟩;refine⟨.eq rfl rfl,?_⟩;refine⟨.pvE (by rfl),?_⟩;refine⟨.litE (by rfl),?_⟩;refine⟨.eq rfl rfl,?_⟩;exact trivial)) (by(refine⟨.box _ rfl ?_,?_⟩;(iterate 3 refine⟨.ownE (by rfl) rfl,?_⟩);refine⟨.litE (by rfl),?_⟩;refine⟨.ownE (by rfl) rfl,?_⟩;refine⟨.litE (by rfl),?_⟩;(iterate 2 refine⟨.ownE (by rfl) rfl,?_⟩);(iterate 3 refine⟨.litE (by rfl),?_⟩);refine⟨.ownE (by rfl) rfl,?_⟩;refine⟨.litE (by rfl),?_⟩;(iterate 2 refine⟨.pvE (by rfl),?_⟩);exact trivial;(iterate 3 refine⟨.pool rfl (by rfl),?_⟩);(iterate 7 refine⟨.row rfl,?_⟩);exact trivial)) rfl⟩
end Go.Ab
/- The solver:values,core and proof told,walked. -/
namespace Go.Ab
open Go Go.Proofs
open Nat (reduceAdd reduceSub)
set_option maxRecDepth 20000
set_option maxHeartbeats 8000000
attribute [local irreducible] hrow AW AOps thenD inBlockD AR iterEnds roundEndsN inlEnds noGotoD EndsX EndsQ idxI
theorem value_fn (s:SR) (v:Nat) (hv:0<v):FnX Try.prog 20 11 (SOb s) [.ptr 0 0,litI v] (SOb s) (litB (decide (0<s.model.getD v 0))):=by
 simp only[SOb,SBox]
 by_cases h:v<s.model.length
 ·have hl:(v:Int).toNat<s.model.length:=by omega
  have hvi:(v:Int)<(s.model.length:Int):=by omega
  have e:s.model.getD v 0=s.model[(v:Int).toNat]:=getD_get hl
  rw[e]
  refine FnX.enter (n:=26) Try.func20 rfl rfl rfl rfl rfl (by decide) rfl rfl fun g hro_ hwt_=>?_;refine Q25 ?_
  (refine Q274 ?_;refine Q69 ?_;refine AOps.fieldAddrN 67 8 13 rfl rfl rfl rfl ?_;refine zt ?_;refine zb ?_;refine Q178 ?_;(focus ((with_reducible apply AOps.index_map);(iterate 7 exact rfl);rotate_left;omega));refine zt ?_;refine zr ?_;refine zt ?_;refine AOps.gtr rfl rfl rfl rfl rfl ?_;refine zT ?_;refine Q28 ?_)
  (apply endsX_ret;((exact Res.one (.tmp rfl rfl)));((refine Q163 ?_;exact Q33));((exact Q54));exact rfl)
 ·have hvi:¬(v:Int)<(s.model.length:Int):=by omega
  have e:s.model.getD v 0=0:=by rw[List.getD_eq_getElem?_getD,List.getElem?_eq_none (by omega)];rfl
  rw[e]
  refine FnX.enter (n:=26) Try.func20 rfl rfl rfl rfl rfl (by decide) rfl rfl fun g hro_ hwt_=>?_;refine Q25 ?_
  (refine Q274 ?_;(iterate 8 refine AOps.guardTn rfl rfl rfl rfl rfl rfl (by with_reducible assumption) ?_);refine zF ?_;refine Q28 ?_)
  (apply endsX_ret;((exact Res.one (.tmp rfl rfl)));((refine Q163 ?_;exact Q33));((exact Q54));exact rfl)
theorem core_fn (s:SR) (hl:s.core.length≤1000000):FnX Try.prog 21 11 (SOb s) [.ptr 0 0] (SOb s) (.pv (nums s.core)):=by
 have hc:=cloneT_fn s.core hl
 simp only[SOb,SBox]
 refine FnX.enter (n:=8) Try.func21 rfl rfl rfl rfl rfl (by decide) rfl rfl fun g hro_ hwt_=>?_;refine Q25 ?_
 (refine zq ?_;refine Q259 ?_;refine Q12 ?_;refine AOps.fieldAddrN 67 9 14 rfl rfl rfl rfl ?_;refine zb ?_;refine zP (hc) ?_;refine Q28 ?_)
 (apply endsX_ret;((exact Res.one (.tmp rfl rfl)));((refine⟨.pvE (by rfl),?_⟩;exact Q33));((exact Q54));exact rfl)
theorem copied1_fn (l:List Int) (hl:l.length≤1000000):Fn Try.prog 46 [.agg [.pv (.lit (.int .i64 1)),.pv (nums l),.pv (.lit (.int .i64 0))]] (.agg [.pv (.lit (.int .i64 1)),.pv (nums l),.pv (.lit (.int .i64 0))]):=by
 have hc:=cloneT_fn l hl
 refine Fn.enter (n:=8) Try.func46 rfl rfl rfl rfl rfl (by decide) fun g hro_ hwt_=>?_;(try (conv=>rhs;simp only[Nf.s1R,Nf.all,Nat.reduceBEq,reduceAdd,reduceSub]))
 (refine zq ?_;refine AOps.box rfl rfl rfl rfl ?_;refine Q0 ?_;refine AOps.allocN' rfl rfl rfl rfl ?_;refine Q206 ?_;refine zq ?_;refine Q117 ?_;refine zP (hc) ?_;refine AOps.fieldAddrN 30 1 1 rfl rfl rfl rfl ?_;(with_reducible apply AOps.store_b1);(iterate 5 exact rfl);(first|exact rfl|assumption|exact o1_ _|exact o2_ _ _|exact o3_ _|exact o4_ _ _);(iterate 3 exact rfl);(with_reducible assumption);refine Q206 ?_;refine zq ?_;refine zL ?_;refine Q0 ?_;refine zB ?_;refine Q206 ?_;refine AW.ret ?_)
 (apply ends_ret;(exact Res.one (.cell rfl rfl rfl rfl));(refine Le.aggL ?_;refine LeL.cons ?_ ?_;(with_reducible exact Le.pv _);refine LeL.cons ?_ ?_;(with_reducible exact Le.pv _);refine LeL.cons ?_ ?_;(with_reducible exact Le.pv _);exact LeL.nil))
abbrev SBoxF (s:SR):List AV:=[.own 1 3 1 (s.value.map encI),.own 2 3 1 (s.level.map encI),.own 3 3 1 (s.reason.map encI),.pv (.lit (s.hl 0)),.own 5 3 1 (s.marks.map encI),litI s.low,.own 6 28 1 (hrow s.nc s.hc),.own 8 28 1 (hrow s.nw s.hw),litI s.head,litI s.added,litB s.broken,.pv (.slice 3 (s.proof.map encJ)),litI 0,.pv (nums s.model),.pv (nums s.core)]
abbrev SObF (s:SR):List (Nat×Option Ob):=[(0,some (.box (SBoxF s))),(1,some .row),(2,some .row),(3,some .row),(4,some (.pool 3 (plI s.hl s.ll))),(5,some .row),(6,some .row),(7,some (.pool 3 (plI s.hc s.cl))),(8,some .row),(9,some (.pool 3 (plI s.hw s.wl))),(10,some .row)]
theorem proof_fn (s:SR) (hp:s.proof.length≤100000) (hl:∀l∈s.proof,l.length≤1000000):FnX Try.prog 22 11 (SOb s) [.ptr 0 0] (SObF s) (.pv (.slice 3 (s.proof.map encJ))):=by
 simp only[SOb,SBox,SObF,SBoxF]
 refine FnX.enter (n:=24) Try.func22 rfl rfl rfl rfl rfl (by decide) rfl rfl fun g hro_ hwt_=>?_;refine Q25 ?_
 refine AW.frzI 10 rfl ?_
 (try (conv=>rhs;simp only[Nf.s1R,Nf.all,Nat.reduceBEq,reduceAdd,reduceSub]))
 (refine zq ?_;refine Q259 ?_;refine AOps.assign rfl rfl rfl ?_;refine Q206 ?_;refine Q173 ?_;refine Q40 ?_;refine Q12 ?_;refine AOps.fieldAddrN 67 6 11 rfl rfl rfl rfl ?_;refine zb ?_;refine zn ?_;refine Q337 ?_)
 (refine Q0 ?_;apply AW.loopR [11,10,3,2,1000] [0,1,2,3,4,5,6,7,8,9] (fun k:Nat=>([(4,.own 11 30 3 ((s.proof.take k).map encJ)),(12,litI k)]:List (Nat×AV))) (fun k:Nat=>([(11,some .row)]:List (Nat×Option Ob))) (fun k:Nat=>k≤s.proof.length) (fun k:Nat=>s.proof.length - k) (0);(conv=>lhs;simp only[Nf.lpR,Nf.all,Nat.reduceBEq,reduceAdd,reduceSub]);(all_goals skip))
 ·exact Nat.zero_le _
 ·exact weak rfl (by(refine⟨.nilown _ _ _ rfl rfl,?_⟩;(iterate 2 refine⟨.litE (by rfl),?_⟩);refine⟨.pvE (by rfl),?_⟩;refine⟨.eq rfl rfl,?_⟩;refine⟨.litE (by rfl),?_⟩;refine⟨.eq rfl rfl,?_⟩;exact trivial)) (by(refine⟨.newrow rfl,?_⟩;refine⟨.box _ rfl ?_,?_⟩;(iterate 3 refine⟨.ownE (by rfl) rfl,?_⟩);refine⟨.litE (by rfl),?_⟩;refine⟨.ownE (by rfl) rfl,?_⟩;refine⟨.litE (by rfl),?_⟩;(iterate 2 refine⟨.ownE (by rfl) rfl,?_⟩);(iterate 3 refine⟨.litE (by rfl),?_⟩);refine⟨.pvE (by rfl),?_⟩;refine⟨.litE (by rfl),?_⟩;(iterate 2 refine⟨.pvE (by rfl),?_⟩);exact trivial;(iterate 3 refine⟨.row rfl,?_⟩);refine⟨.pool rfl (by rfl),?_⟩;(iterate 2 refine⟨.row rfl,?_⟩);refine⟨.pool rfl (by rfl),?_⟩;refine⟨.row rfl,?_⟩;refine⟨.pool rfl (by rfl),?_⟩;exact trivial)) rfl
 rintro k hk
 by_cases hlt:k<s.proof.length
 ·have hc:=copied1_fn s.proof[k] (hl _ (List.getElem_mem hlt))
  have htl:=List.length_take_le k s.proof
  have e:((s.proof.take (k+1)).map encJ)=(s.proof.take k).map encJ++ [encJ s.proof[k]]:=by
   rw[List.take_succ_eq_append_getElem hlt,List.map_append];rfl
  (refine Q266 ?_;refine Q5 ?_;refine Q40 ?_;(focus ((with_reducible apply AOps.index_map);(iterate 7 exact rfl);rotate_left;omega));refine AOps.load_rn rfl rfl rfl rfl ?_;refine Q0 ?_;refine AOps.allocN' rfl rfl rfl rfl ?_;refine Q0 ?_;refine zB ?_;refine Q206 ?_;refine AW.region ?_;refine AOps.move_own rfl rfl rfl ?_;refine AOps.move_clo rfl rfl rfl ?_;refine zL ?_;refine Q0 ?_;(with_reducible apply AOps.callTp (hf:=hc));exact rfl;exact rfl;(repeat (first|exact .nil|(refine .cons rfl ?_ ?_;(first|exact .pv _|exact .own _ _ _ _ rfl|exact .nil _|exact .any _|exact .rptr _|(refine .aggL ?_;repeat (first|exact .nil|(refine .cons ?_ ?_;(first|exact .pv _|exact .own _ _ _ _ rfl|exact .nil _))))))));exact rfl;refine AOps.bs1a3 rfl rfl rfl rfl rfl rfl rfl rfl rfl rfl ?_;refine Q0 ?_;(with_reducible apply AOps.appendS);exact rfl;(first|exact .pv rfl|exact .own rfl|exact .nil rfl);(iterate 9 exact rfl);(first|omega|(simp only[List.length_map,List.length_append,List.length_cons,List.length_nil,List.length_drop,List.length_take,List.length_set,List.length_range,chunk_len];omega));refine Q0 ?_;refine Q149 ?_;refine Q257 ?_)
  exact⟨k+1,by omega,by omega,weak rfl (by(refine⟨.ownE (by first|rfl|(rw[e])) rfl,?_⟩;refine⟨.litE (by first|rfl|(rw[e])),?_⟩;refine⟨.litE (by first|rfl|(rw[e])),?_⟩;refine⟨.pvE (by first|rfl|(rw[e])),?_⟩;refine⟨.eq rfl rfl,?_⟩;refine⟨.litE (by first|rfl|(rw[e])),?_⟩;refine⟨.eq rfl rfl,?_⟩;exact trivial)) (by(refine⟨.row rfl,?_⟩;refine⟨.box _ rfl ?_,?_⟩;refine⟨.ownE (by first|rfl|(rw[e])) rfl,?_⟩;refine⟨.ownE (by first|rfl|(rw[e])) rfl,?_⟩;refine⟨.ownE (by first|rfl|(rw[e])) rfl,?_⟩;refine⟨.litE (by first|rfl|(rw[e])),?_⟩;refine⟨.ownE (by first|rfl|(rw[e])) rfl,?_⟩;refine⟨.litE (by first|rfl|(rw[e])),?_⟩;refine⟨.ownE (by first|rfl|(rw[e])) rfl,?_⟩;refine⟨.ownE (by first|rfl|(rw[e])) rfl,?_⟩;refine⟨.litE (by first|rfl|(rw[e])),?_⟩;refine⟨.litE (by first|rfl|(rw[e])),?_⟩;refine⟨.litE (by first|rfl|(rw[e])),?_⟩;refine⟨.pvE (by first|rfl|(rw[e])),?_⟩;refine⟨.litE (by first|rfl|(rw[e])),?_⟩;refine⟨.pvE (by first|rfl|(rw[e])),?_⟩;refine⟨.pvE (by first|rfl|(rw[e])),?_⟩;exact trivial;(iterate 3 refine⟨.row rfl,?_⟩);refine⟨.pool rfl (by first|rfl|(rw[e])),?_⟩;(iterate 2 refine⟨.row rfl,?_⟩);refine⟨.pool rfl (by first|rfl|(rw[e])),?_⟩;refine⟨.row rfl,?_⟩;refine⟨.pool rfl (by first|rfl|(rw[e])),?_⟩;exact trivial)) rfl⟩
 ·obtain rfl:k=s.proof.length:=by omega
  rw[List.take_length]
  (refine Q208 ?_;refine Q124 ?_;refine Q269 ?_)
  (apply endsX_ret;((exact Res.one (.tmp rfl rfl)));((refine⟨.freezeE rfl (by rfl),?_⟩;exact Q33));((refine⟨.box _ rfl ?_,?_⟩;(iterate 3 refine⟨.ownE (by rfl) rfl,?_⟩);refine Q163 ?_;refine⟨.ownE (by rfl) rfl,?_⟩;refine Q163 ?_;(iterate 2 refine⟨.ownE (by rfl) rfl,?_⟩);(iterate 3 refine⟨.litE (by rfl),?_⟩);refine⟨.pvE (by rfl),?_⟩;refine Q163 ?_;(iterate 2 refine⟨.pvE (by rfl),?_⟩);exact trivial;(iterate 3 refine⟨.row rfl,?_⟩);refine⟨.pool rfl (by rfl),?_⟩;(iterate 2 refine⟨.row rfl,?_⟩);refine⟨.pool rfl (by rfl),?_⟩;refine⟨.row rfl,?_⟩;refine⟨.pool rfl (by rfl),?_⟩;refine⟨.newrow rfl,?_⟩;exact trivial));exact rfl)
end Go.Ab
/- A formula solved:a new solver,its clauses,the search,walked. -/
namespace Go.Ab
open Go Go.Proofs
open Nat (reduceAdd reduceSub)
set_option maxRecDepth 20000
set_option maxHeartbeats 8000000
section
variable {P:Program} {g:Ghost} {δ:DS} {Q:Exit→DS→Prop}
theorem AW.nxUp (m:Nat) {c:Code} (h:Nat.ble δ.nx m=true) (hK:AW P g c Q {δ with nx:=m}):AW P g c Q δ:=fun κ a w r=>
 hK κ a w {n:=r.n,dfr:=r.dfr,env:=r.env,obj:=r.obj,inj:=r.inj,lo:=r.lo,nx:=fun i hi=>Nat.lt_of_lt_of_le (r.nx i hi) (by simpa using h),wt:=r.wt,below:=r.below,hB:=r.hB,N0:=r.N0,fr:=r.fr,mkf:=r.mkf}
theorem AW.swI (i j:Nat) {c:Code} (hwt:g.wt=none) (hi:Nat.blt i δ.nx=true) (hj:Nat.blt j δ.nx=true) (hK:AW P g c Q (δ.sw i j)):AW P g c Q δ:=AW.weak (Weak.sw i j hwt hi hj (fun κ a w r=>⟨κ,r⟩)) hK
end
theorem hrow_zero (h:Nat→Value):hrow 0 h=[]:=rfl
theorem hrow_nil (n:Nat):List.replicate n [PV.lit (.slice none 0 0)]=hrow n (fun _=> .slice none 0 0):=by
 unfold hrow
 symm
 rw[List.eq_replicate_iff]
 refine⟨by simp,fun x hx=>?_⟩
 obtain⟨_,_,rfl⟩:=List.mem_map.1 hx
 rfl
def valsT (n:Nat) (m:List Int):List Bool:=(List.range n).map fun i=>decide (0<m.getD (i+1) 0)
def SolvedOut (n:Nat) (F:List (List Int)) (A:List Int) (q:Int×List Bool×List Int×List (List Int)):Prop:=∃t,SolveOut n F A 10000 t q.1∧q.2.1=valsT n t.model∧q.2.2.1=t.core∧q.2.2.2=t.proof
attribute [local irreducible] hrow AW AOps thenD inBlockD AR iterEnds roundEndsN inlEnds noGotoD EndsX EndsQ EndsQ4 idxI
theorem lits_len {n:Nat} (hn:n≤20000) {l:List Int} (hnd:l.Nodup) (hl:∀x∈l,Lit n x):l.length≤1000000:=by
 have:=nodup_leI (n:=2*n+2) (l:=l.map idxI) (by
  unfold List.Nodup
  rw[List.pairwise_map]
  exact hnd.imp_of_mem fun {a b} ha hb hab e=>hab (idxI_inj (hl a ha) (hl b hb) (by rw[e]))) fun v hv=>by
  obtain⟨a,ha,rfl⟩:=List.mem_map.1 hv
  have:=idxI_lt (hl a ha)
  omega
 simp only[List.length_map] at this
 omega
theorem SolveOut.clen {n:Nat} {F:List (List Int)} {A:List Int} {fuel:Nat} {t:SR} {k:Int} (h:SolveOut n F A fuel t k):t.core.length≤1000000:=by
 rcases h.res with ⟨_,_,_,e,_⟩|⟨_,_,_,_,_,e1,e2⟩|⟨_,_,e,_⟩
 ·rw[e];simp
 ·exact lits_len h.hn e1 e2
 ·rw[e];simp
theorem SolveOut.pclen {n:Nat} {F:List (List Int)} {A:List Int} {fuel:Nat} {t:SR} {k:Int} (h:SolveOut n F A fuel t k):∀l∈t.proof,l.length≤1000000:=fun l hl=>
 lits_len h.hn (h.nd l hl) (h.lits l (List.mem_append.2 (.inr hl)))
theorem solved_fn (n:Nat) (F:List (List Int)) (A:List Int) (hn:n≤20000) (hF:F.length≤50000) (hc:∀c∈F,c.length≤1000000∧∀x∈c,Lit n x) (hA:∀x∈A,Lit n x) (hAl:A.length≤50000):FnR Try.prog 8 0 [] [fml (n:Nat) F,.pv (nums A)] (fun q:Int×List Bool×List Int×List (List Int)=>SolvedOut n F A q) (fun _=>[]) (fun q=> .tup [litI q.1,.pv (bools q.2.1),.pv (nums q.2.2.1),.pv (.slice 3 (q.2.2.2.map encJ))]):=by
 have hn1:¬(n:Int)<0:=by omega
 have hn2:¬(20000:Int)<(n:Int):=by omega
 have hz:List.replicate ((n:Int)+1).toNat [PV.lit (.int .i64 0)]=(newS n).value.map encI:=by
  rw[show((n:Int)+1).toNat=n+1 by omega]
  show _=(List.replicate (n+1) 0).map encI
  rw[List.map_replicate];rfl
 have hw:List.replicate (2*(n:Int)+2).toNat [PV.lit (.slice none 0 0)]=hrow (newS n).nw (newS n).hw:=by
  rw[show(2*(n:Int)+2).toNat=2*n+2 by omega]
  exact hrow_nil _
 have h00:hrow (newS n).nc (newS n).hc=[]:=hrow_zero _
 refine FnR.enter4 (n:=54) Try.func8 rfl rfl rfl rfl rfl (by decide) rfl (fun _=>rfl) fun g hro_ hwt_=>?_;refine Q25 ?_
 (refine zq ?_;refine AOps.box rfl rfl rfl rfl ?_;refine Q0 ?_;(iterate 4 refine za ?_);refine zd ?_;refine Q40 ?_;refine Q80 ?_;(with_reducible apply AOps.inline (hf:=Try.func17));(with_reducible assumption);(iterate 10 exact rfl);intro g_ hro_ hwt_;refine Q0 ?_;refine Q173 ?_;refine Q202 ?_;refine zs ?_;refine zm ?_;refine zl ?_;refine zm ?_;refine Q75 ?_;refine Q116 ?_;refine Q202 ?_;refine AOps.mul rfl rfl rfl rfl rfl (by omega) ?_;refine zj ?_;refine Q68 ?_;refine AOps.buildN 67 [7] rfl rfl rfl rfl rfl rfl rfl rfl rfl ?_;refine Q0 ?_;refine AOps.box rfl rfl rfl rfl ?_;refine Q0 ?_;refine AOps.assign_ptr rfl rfl rfl ?_;refine zd ?_;refine zo ?_;refine AW.regionM [0,1,2,4,5,7,8] [13] rfl (by assumption) (by kernel_rfl) (by kernel_rfl) rfl ?_;show AOps .held _ _ _ [_,_,_,_,_,_,_] _ _;refine Q336 ?_;refine zj ?_;refine zm ?_;refine zj ?_;refine zm ?_;refine zj ?_;refine Q4 ?_;intro k_ hk_;refine Q0 ?_;apply AR.cut [8,7,5,4,2,1,0,3,6,9];intro hJ_0;apply AR.cut [8,7,5,4,2,1,0,3,9];intro hJ_1;apply AR.cut [8,7,5,4,2,1,0,6,9];intro hJ_2;apply AR.cut [8,7,5,4,2,1,0,3,6];intro hJ_3;(refine AR.step3M (i:=3) (j:=6) (m:=9) rfl (by kernel_rfl) rfl rfl rfl ?_ ?_ ?_<;>intro g_ hgro_ hw_);refine Q335 ?_;(refine AR.step2M (i:=6) (j:=9) rfl (by kernel_rfl) rfl rfl ?_ ?_<;>intro g_ hgro_ hw_);refine Q335 ?_;(try (conv=>rhs;simp only[Nf.s1R,Nf.all,Nat.reduceBEq,reduceAdd,reduceSub]));refine Q26 ?_;exact AR.perm (by kernel_rfl) hJ_3;refine Q335 ?_;(try (conv=>rhs;simp only[Nf.s1R,Nf.all,Nat.reduceBEq,reduceAdd,reduceSub]));exact Q244;refine Q335 ?_;(refine AR.step2M (i:=3) (j:=9) rfl (by kernel_rfl) rfl rfl ?_ ?_<;>intro g_ hgro_ hw_);refine Q335 ?_;(try (conv=>rhs;simp only[Nf.s1R,Nf.all,Nat.reduceBEq,reduceAdd,reduceSub]));refine Q246 ?_;refine AR.meet hJ_3 (by kernel_rfl) (fun g_=>weak rfl ?_ ?_ rfl);(iterate 34 refine⟨.eq rfl rfl,?_⟩);exact trivial;(iterate 2 refine⟨.row rfl,?_⟩);exact Q94;refine Q335 ?_;(try (conv=>rhs;simp only[Nf.s1R,Nf.all,Nat.reduceBEq,reduceAdd,reduceSub]));refine Q26 ?_;exact AR.perm (by kernel_rfl) hJ_2;refine Q335 ?_;(refine AR.step2M (i:=3) (j:=6) rfl (by kernel_rfl) rfl rfl ?_ ?_<;>intro g_ hgro_ hw_);refine Q335 ?_;(try (conv=>rhs;simp only[Nf.s1R,Nf.all,Nat.reduceBEq,reduceAdd,reduceSub]));refine Q246 ?_;refine AR.meet hJ_1 (by kernel_rfl) (fun g_=>weak rfl ?_ ?_ rfl);(iterate 34 refine⟨.eq rfl rfl,?_⟩);exact trivial;(iterate 2 refine⟨.row rfl,?_⟩);exact Q94;refine Q335 ?_;(try (conv=>rhs;simp only[Nf.s1R,Nf.all,Nat.reduceBEq,reduceAdd,reduceSub]));refine Q246 ?_;refine AR.meet hJ_2 (by kernel_rfl) (fun g_=>weak rfl ?_ ?_ rfl);(iterate 34 refine⟨.eq rfl rfl,?_⟩);exact trivial;(iterate 2 refine⟨.row rfl,?_⟩);exact Q94;refine AR.step1M (i:=9) rfl (by kernel_rfl) rfl ?_;intro g_ hgro_ hw_;refine Q335 ?_;(try (conv=>rhs;simp only[Nf.s1R,Nf.all,Nat.reduceBEq,reduceAdd,reduceSub]));exact Q162;refine AR.step1M (i:=3) rfl (by kernel_rfl) rfl ?_;intro g_ hgro_ hw_;refine Q335 ?_;(try (conv=>rhs;simp only[Nf.s1R,Nf.all,Nat.reduceBEq,reduceAdd,reduceSub]));refine AR.sw 4 5 (by assumption) (by kernel_rfl) (by kernel_rfl) ?_;refine Q120 ?_;refine Q246 ?_;refine Q253 ?_;(iterate 3 refine⟨.row rfl,?_⟩);exact Q94;refine AR.step1M (i:=6) rfl (by kernel_rfl) rfl ?_;intro g_ hgro_ hw_;refine Q335 ?_;(try (conv=>rhs;simp only[Nf.s1R,Nf.all,Nat.reduceBEq,reduceAdd,reduceSub]));refine AR.sw 4 5 (by assumption) (by kernel_rfl) (by kernel_rfl) ?_;refine Q120 ?_;refine Q253 ?_;(iterate 3 refine⟨.row rfl,?_⟩);exact Q94;refine AR.free 10 (by kernel_rfl) rfl rfl rfl (Frees.build 65 [0,1,2,5] rfl rfl rfl rfl rfl rfl rfl rfl) ?_;(try (conv=>rhs;simp only[Nf.s1R,Nf.all,Nat.reduceBEq,reduceAdd,reduceSub]));refine AR.readsM [11,12] (by kernel_rfl) (by kernel_rfl) (by kernel_rfl) (by kernel_rfl) ?_;intro g_ hgro_;show AOps .held _ _ _ [_,_] _ _;refine Q9 ?_;refine Q4 ?_;intro k_ hk_;refine Q0 ?_;refine Q108 ?_;intro g_ hgro_ hwt2_;(with_reducible apply AOps.store_bp);(iterate 3 exact rfl);(repeat' first|exact PutP.nil|apply PutP.take|apply PutP.skip);(iterate 5 exact rfl);(with_reducible assumption);refine Q267 ?_;refine Q181 ?_;refine AOps.assign_ptr rfl rfl rfl ?_;refine zd ?_;refine AW.ret ?_;refine inlEnds_rptr rfl rfl ?_;refine Q0 ?_;refine AOps.assign_ptr rfl rfl rfl ?_;refine zd ?_;refine zo ?_;refine AW.stopS 2 ?_)
 refine Stop.go ?_
 refine AW.plI_new 3 ?_
 refine AW.plI_new 3 ?_
 refine AW.plI_new 3 ?_
 refine AW.nxUp 20 (by rfl) ?_
 refine AW.swI 0 11 (by assumption) rfl rfl ?_
 refine AW.swI 2 0 (by assumption) rfl rfl ?_
 refine AW.swI 1 8 (by assumption) rfl rfl ?_
 refine AW.swI 3 1 (by assumption) rfl rfl ?_
 refine AW.swI 4 2 (by assumption) rfl rfl ?_
 refine AW.swI 3 4 (by assumption) rfl rfl ?_
 refine AW.swI 5 3 (by assumption) rfl rfl ?_
 refine AW.swI 6 9 (by assumption) rfl rfl ?_
 refine Q120 ?_
 refine AW.weak (δ':=⟨54,[(8,.ptr 0 0),(2,.ptr 11 0),(1,.pv (nums A)),(1000,.agg [])],SOb (newS n)++ [(11,some (.box [litI n,.pv (intss F)]))],20⟩) ?_ ?_
 ·exact weak rfl (by(refine⟨.eq rfl rfl,?_⟩;refine⟨.eq rfl rfl,?_⟩;refine⟨.pvE (by first|rfl|exact hz|exact hw|exact h00),?_⟩;refine⟨.eq rfl rfl,?_⟩;exact trivial)) (by(refine⟨.box _ rfl ?_,?_⟩;(iterate 3 refine⟨.ownE (by first|rfl|exact hz|exact hw|exact h00) rfl,?_⟩);refine⟨.litE (by first|rfl|exact hz|exact hw|exact h00),?_⟩;refine⟨.nilown _ _ _ rfl rfl,?_⟩;refine⟨.litE (by first|rfl|exact hz|exact hw|exact h00),?_⟩;refine⟨.nilownE (by first|rfl|exact hz|exact hw|exact h00) rfl rfl,?_⟩;refine⟨.ownE (by first|rfl|exact hz|exact hw|exact h00) rfl,?_⟩;(iterate 3 refine⟨.litE (by first|rfl|exact hz|exact hw|exact h00),?_⟩);refine⟨.nilown _ _ _ rfl rfl,?_⟩;refine⟨.litE (by first|rfl|exact hz|exact hw|exact h00),?_⟩;(iterate 2 refine⟨.nilpvE (by first|rfl|exact hz|exact hw|exact h00),?_⟩);exact trivial;(iterate 3 refine⟨.row rfl,?_⟩);refine⟨.pool rfl (by first|rfl|exact hz|exact hw|exact h00),?_⟩;(iterate 2 refine⟨.newrow rfl,?_⟩);refine⟨.pool rfl (by first|rfl|exact hz|exact hw|exact h00),?_⟩;refine⟨.row rfl,?_⟩;refine⟨.pool rfl (by first|rfl|exact hz|exact hw|exact h00),?_⟩;refine⟨.newrow rfl,?_⟩;refine⟨.box _ rfl ?_,?_⟩;refine⟨.litE (by first|rfl|exact hz|exact hw|exact h00),?_⟩;refine⟨.pvE (by first|rfl|exact hz|exact hw|exact h00),?_⟩;(iterate 2 exact trivial))) rfl
 simp only[SOb,SBox,List.cons_append,List.nil_append]
 (refine Q181 ?_;refine AOps.eqlPS rfl rfl rfl rfl rfl rfl rfl ?_;refine Q67 ?_;refine Q37 ?_;refine zo ?_;refine Q40 ?_;refine Q271 ?_)
 (refine Q0 ?_;apply AW.loopR [8,2,1,1000] [1,2,3,5,6,8,10,11] (fun q:SR×Nat=>([(9,litI (q.2:Nat))]:List (Nat×AV))) (fun q:SR×Nat=>([(0,some (.box [.own 1 3 1 ((q.1.value).map encI),.own 2 3 1 ((q.1.level).map encI),.own 3 3 1 ((q.1.reason).map encI),.pv (.lit (q.1.hl 0)),.own 5 3 1 ((q.1.marks).map encI),litI (q.1.low),.own 6 28 1 (hrow q.1.nc q.1.hc),.own 8 28 1 (hrow q.1.nw q.1.hw),litI (q.1.head),litI (q.1.added),litB (q.1.broken),.own 10 30 3 ((q.1.proof).map encJ),litI 0,.pv (nums (q.1.model)),.pv (nums (q.1.core))])),(4,some (.pool 3 (plI q.1.hl q.1.ll))),(7,some (.pool 3 (plI q.1.hc q.1.cl))),(9,some (.pool 3 (plI q.1.hw q.1.wl)))]:List (Nat×Option Ob))) (fun q:SR×Nat=>(SNew n (F.take q.2) q.2 q.1∧q.2≤F.length)) (fun q:SR×Nat=>F.length - q.2) ((newS n,0));(conv=>lhs;simp only[Nf.lpR,Nf.all,Nat.reduceBEq,reduceAdd,reduceSub]);(all_goals skip))
 ·exact⟨newS_fresh hn,Nat.zero_le _⟩
 ·exact weak rfl (by(refine⟨.litE (by rfl),?_⟩;(iterate 2 refine⟨.eq rfl rfl,?_⟩);refine⟨.pvE (by rfl),?_⟩;refine⟨.eq rfl rfl,?_⟩;exact trivial)) (by(refine⟨.box _ rfl ?_,?_⟩;(iterate 3 refine⟨.ownE (by rfl) rfl,?_⟩);refine⟨.litE (by rfl),?_⟩;refine⟨.ownE (by rfl) rfl,?_⟩;refine⟨.litE (by rfl),?_⟩;(iterate 2 refine⟨.ownE (by rfl) rfl,?_⟩);(iterate 3 refine⟨.litE (by rfl),?_⟩);refine⟨.ownE (by rfl) rfl,?_⟩;refine⟨.litE (by rfl),?_⟩;(iterate 2 refine⟨.pvE (by rfl),?_⟩);exact trivial;(iterate 3 refine⟨.pool rfl (by rfl),?_⟩);(iterate 7 refine⟨.row rfl,?_⟩);refine⟨.box _ rfl ?_,?_⟩;refine⟨.litE (by rfl),?_⟩;refine⟨.pvE (by rfl),?_⟩;(iterate 2 exact trivial))) rfl
 rintro⟨σ,i⟩ ⟨hσ,hi⟩
 simp only at hσ hi
 by_cases hlt:i<F.length
 ·obtain⟨hc1,hc2⟩:=hc _ (List.getElem_mem hlt)
  have had:=addClause_fn n (F.take i) i σ hσ (by omega) F[i] hc2 hc1
  rw[← List.take_succ_eq_append_getElem hlt] at had
  simp only[SOb,SBox] at had
  (refine zo ?_;refine Q202 ?_;refine Q216 ?_;refine Q5 ?_;refine Q168 ?_;refine Q60 ?_;refine zm ?_;(focus ((with_reducible apply AOps.index_map);(iterate 7 exact rfl);rotate_left;omega));refine zr ?_;(with_reducible apply AOps.callR (hf:=had));(with_reducible assumption);(iterate 3 exact rfl);(repeat (first|exact trivial|refine⟨rfl,?_⟩));(repeat (first|exact .nil|(refine .cons ?_ ?_;(first|exact .eq rfl rfl|exact .nil _|exact .any _))));(intro x_;exact rfl);exact rfl;(repeat (first|exact trivial|refine⟨rfl,?_⟩|refine⟨obIds_set,?_⟩));(intro x_;(repeat (first|exact trivial|refine⟨rfl,?_⟩|refine⟨obIds_set,?_⟩)));(intro x_;exact rfl);exact rfl;(intro x_ hx_);refine Q87 ?_;refine AOps.not rfl rfl rfl ?_;refine Q67 ?_;refine Q136 ?_;refine Q0 ?_;refine zm ?_;refine zj ?_;refine Q11 ?_)
  exact⟨(x_,i+1),⟨hx_,hlt⟩,by show F.length - (i+1)<F.length - i;omega,weak rfl (by(refine⟨.litE (by rfl),?_⟩;(iterate 2 refine⟨.eq rfl rfl,?_⟩);refine⟨.pvE (by rfl),?_⟩;refine⟨.eq rfl rfl,?_⟩;exact trivial)) (by(refine⟨.box _ rfl ?_,?_⟩;(iterate 3 refine⟨.ownE (by rfl) rfl,?_⟩);refine⟨.litE (by rfl),?_⟩;refine⟨.ownE (by rfl) rfl,?_⟩;refine⟨.litE (by rfl),?_⟩;(iterate 2 refine⟨.ownE (by rfl) rfl,?_⟩);(iterate 3 refine⟨.litE (by rfl),?_⟩);refine⟨.ownE (by rfl) rfl,?_⟩;refine⟨.litE (by rfl),?_⟩;(iterate 2 refine⟨.pvE (by rfl),?_⟩);exact trivial;(iterate 3 refine⟨.pool rfl (by rfl),?_⟩);(iterate 7 refine⟨.row rfl,?_⟩);refine⟨.box _ rfl ?_,?_⟩;refine⟨.litE (by rfl),?_⟩;refine⟨.pvE (by rfl),?_⟩;(iterate 2 exact trivial))) rfl⟩
 ·obtain rfl:i=F.length:=by omega
  rw[List.take_length] at hσ
  have hsv:=solve_fn n F F.length σ hσ (by omega) A hA hAl 10000 (by omega) (by omega)
  rw[show((10000:Nat):Int)=10000 from rfl] at hsv
  simp only[SOb,SBox] at hsv
  (refine zo ?_;refine Q202 ?_;refine Q216 ?_;refine zk ?_;refine Q14 ?_;refine Q168 ?_;refine zm ?_;(with_reducible apply AOps.callR (hf:=hsv));(with_reducible assumption);(iterate 3 exact rfl);(repeat (first|exact trivial|refine⟨rfl,?_⟩));(repeat (first|exact .nil|(refine .cons ?_ ?_;(first|exact .eq rfl rfl|exact .nil _|exact .any _))));(intro x_;exact rfl);exact rfl;(repeat (first|exact trivial|refine⟨rfl,?_⟩|refine⟨obIds_set,?_⟩));(intro x_;(repeat (first|exact trivial|refine⟨rfl,?_⟩|refine⟨obIds_set,?_⟩)));(intro x_;exact rfl);exact rfl;(intro x_ hx_);refine Q87 ?_;refine Q11 ?_;refine AW.stopS 10 ?_)
  refine Stop.go ?_
  obtain⟨t,k⟩:=x_
  have ht:=hx_
  simp only at ht ⊢
  have hpl:=ht.plen2
  have hlits:=ht.lits
  have hvn:∀m,(valsT n m).length=n:=fun m=>by simp [valsT]
  (refine Q40 ?_;refine Q61 ?_;refine Q40 ?_;refine Q271 ?_)
  (refine Q0 ?_;apply AW.loopR [10,8,2,1000] [0,1,2,3,4,5,6,7,8,9,10,11] (fun v:Nat=>([(11,.own 12 4 1 (((valsT n t.model).take v).map encB)),(12,litI ((v:Int)+1))]:List (Nat×AV))) (fun v:Nat=>([(12,some .row)]:List (Nat×Option Ob))) (fun v:Nat=>v≤n) (fun v:Nat=>n - v) (0);(conv=>lhs;simp only[Nf.lpR,Nf.all,Nat.reduceBEq,reduceAdd,reduceSub]);(all_goals skip))
  ·exact Nat.zero_le _
  ·exact weak rfl (by(refine⟨.nilown _ _ _ rfl rfl,?_⟩;(iterate 2 refine⟨.litE (by rfl),?_⟩);(iterate 3 refine⟨.eq rfl rfl,?_⟩);exact trivial)) (by(refine⟨.newrow rfl,?_⟩;refine⟨.box _ rfl ?_,?_⟩;(iterate 3 refine⟨.ownE (by rfl) rfl,?_⟩);refine⟨.litE (by rfl),?_⟩;refine⟨.ownE (by rfl) rfl,?_⟩;refine⟨.litE (by rfl),?_⟩;(iterate 2 refine⟨.ownE (by rfl) rfl,?_⟩);(iterate 3 refine⟨.litE (by rfl),?_⟩);refine⟨.ownE (by rfl) rfl,?_⟩;refine⟨.litE (by rfl),?_⟩;(iterate 2 refine⟨.pvE (by rfl),?_⟩);exact trivial;(iterate 3 refine⟨.row rfl,?_⟩);refine⟨.pool rfl (by rfl),?_⟩;(iterate 2 refine⟨.row rfl,?_⟩);refine⟨.pool rfl (by rfl),?_⟩;refine⟨.row rfl,?_⟩;refine⟨.pool rfl (by rfl),?_⟩;refine⟨.row rfl,?_⟩;refine⟨.box _ rfl ?_,?_⟩;refine⟨.litE (by rfl),?_⟩;refine⟨.pvE (by rfl),?_⟩;(iterate 2 exact trivial))) rfl
  rintro v hv
  by_cases hlv:v<n
  ·have hvf:=value_fn t (v+1) (by omega)
   have e:((valsT n t.model).take (v+1)).map encB=((valsT n t.model).take v).map encB++ [encB (decide (0<t.model.getD (v+1) 0))]:=by
    rw[List.take_succ_eq_append_getElem (by rw[hvn];exact hlv),List.map_append]
    simp [valsT]
   rw[show((v+1:Nat):Int)=(v:Int)+1 from rfl] at hvf
   have htk:=List.length_take_le v (valsT n t.model)
   simp only[SOb,SBox] at hvf
   (refine Q214 ?_;refine Q80 ?_;refine AOps.leq rfl rfl rfl rfl rfl ?_;refine zd ?_;refine Q5 ?_;refine Q177 ?_;refine AOps.move_own rfl rfl rfl ?_;refine Q336 ?_;refine zX (hvf) ?_;refine Q87 ?_;(with_reducible apply AOps.bs1);(iterate 5 exact rfl);(first|exact rfl|assumption|exact o1_ _|exact o2_ _ _|exact o3_ _|exact o4_ _ _);exact rfl;exact rfl;refine Q0 ?_;(with_reducible apply AOps.appendS);exact rfl;(first|exact .pv rfl|exact .own rfl|exact .nil rfl);(iterate 9 exact rfl);(first|omega|(simp only[List.length_map,List.length_append,List.length_cons,List.length_nil,List.length_drop,List.length_take,List.length_set,List.length_range,chunk_len];omega));refine Q0 ?_;refine Q149 ?_;refine Q0 ?_;refine zm ?_;refine zj ?_;refine Q11 ?_)
   exact⟨v+1,by omega,by omega,weak rfl (by(refine⟨.ownE (by first|rfl|(rw[e];rfl)) rfl,?_⟩;refine⟨.litE (by first|rfl|(rw[e];rfl)),?_⟩;refine⟨.litE (by first|rfl|(rw[e];rfl)),?_⟩;(iterate 3 refine⟨.eq rfl rfl,?_⟩);exact trivial)) (by(refine⟨.row rfl,?_⟩;refine⟨.box _ rfl ?_,?_⟩;refine⟨.ownE (by first|rfl|(rw[e];rfl)) rfl,?_⟩;refine⟨.ownE (by first|rfl|(rw[e];rfl)) rfl,?_⟩;refine⟨.ownE (by first|rfl|(rw[e];rfl)) rfl,?_⟩;refine⟨.litE (by first|rfl|(rw[e];rfl)),?_⟩;refine⟨.ownE (by first|rfl|(rw[e];rfl)) rfl,?_⟩;refine⟨.litE (by first|rfl|(rw[e];rfl)),?_⟩;refine⟨.ownE (by first|rfl|(rw[e];rfl)) rfl,?_⟩;refine⟨.ownE (by first|rfl|(rw[e];rfl)) rfl,?_⟩;refine⟨.litE (by first|rfl|(rw[e];rfl)),?_⟩;refine⟨.litE (by first|rfl|(rw[e];rfl)),?_⟩;refine⟨.litE (by first|rfl|(rw[e];rfl)),?_⟩;refine⟨.ownE (by first|rfl|(rw[e];rfl)) rfl,?_⟩;refine⟨.litE (by first|rfl|(rw[e];rfl)),?_⟩;refine⟨.pvE (by first|rfl|(rw[e];rfl)),?_⟩;refine⟨.pvE (by first|rfl|(rw[e];rfl)),?_⟩;exact trivial;(iterate 3 refine⟨.row rfl,?_⟩);refine⟨.pool rfl (by first|rfl|(rw[e];rfl)),?_⟩;(iterate 2 refine⟨.row rfl,?_⟩);refine⟨.pool rfl (by first|rfl|(rw[e];rfl)),?_⟩;refine⟨.row rfl,?_⟩;refine⟨.pool rfl (by first|rfl|(rw[e];rfl)),?_⟩;refine⟨.row rfl,?_⟩;refine⟨.box _ rfl ?_,?_⟩;refine⟨.litE (by first|rfl|(rw[e];rfl)),?_⟩;refine⟨.pvE (by first|rfl|(rw[e];rfl)),?_⟩;(iterate 2 exact trivial))) rfl⟩
  ·obtain rfl:v=n:=by omega
   rw[show(valsT v t.model).take v=valsT v t.model from List.take_of_length_le (by rw[hvn];exact Nat.le_refl _)]
   have hcl:=ht.clen
   have hll:=ht.pclen
   have hco:=core_fn t hcl
   have hpr:=proof_fn t (by omega) hll
   simp only[SOb,SBox,SObF,SBoxF] at hco hpr
   (refine Q214 ?_;refine Q80 ?_;refine AOps.leq rfl rfl rfl rfl rfl ?_;refine Q307 ?_;refine Q14 ?_;refine AW.stopS 15 ?_)
   refine Stop.go ?_
   refine AW.frzI 12 rfl ?_
   (try (conv=>rhs;simp only[Nf.s1R,Nf.all,Nat.reduceBEq,reduceAdd,reduceSub]))
   (refine zq ?_;(iterate 2 refine zm ?_);refine AOps.move_ptr rfl rfl rfl ?_;refine zX (hco) ?_;refine Q87 ?_;refine AOps.move_ptr rfl rfl rfl ?_;refine zX (hpr) ?_;refine Q87 ?_;(iterate 4 refine za ?_);refine zd ?_;refine AW.ret ?_)
   (apply endsQ4_ret (((k,valsT v t.model,t.core,t.proof):Int×List Bool×List Int×List (List Int))) (⟨t,ht,rfl,rfl,rfl⟩);((exact Res4.four (.tmp rfl rfl) (.tmp rfl rfl) (.tmp rfl rfl) (.tmp rfl rfl)));(((iterate 2 refine⟨.eq rfl rfl,?_⟩);(iterate 2 exact trivial)));(skip);exact rfl)
end Go.Ab
/- What solving gives,in terms of assignments. -/
namespace Go.Ab
open Go Go.Proofs
def asgL (v:List Bool):Nat→Bool:=fun u=>v.getD (u - 1) false
theorem asgL_lit {n:Nat} {v:List Bool} {x:Int} (hx:Lit n x):LitT (asgL v) x↔litT v x=true:=by
 obtain⟨h0,_,_⟩:=hx
 unfold LitT litT asgL
 by_cases h:x<0
 ·rw[if_pos h,if_neg (by omega),if_pos h,show varN x - 1=(0 - x - 1).toNat by unfold varN;omega]
  cases v.getD (0 - x - 1).toNat false<;>simp
 ·rw[if_neg h,if_pos (by omega),show varN x - 1=(x - 1).toNat by unfold varN;omega]
theorem asgL_sat {n:Nat} {v:List Bool} {F:List (List Int)} (hF:∀c∈F,∀x∈c,Lit n x):SatF (asgL v) F↔allM v F=true:=by
 unfold SatF allM trueM
 simp only[List.all_eq_true,List.any_eq_true]
 constructor
 ·intro h c hc
  obtain⟨x,hx,ht⟩:=h c hc
  exact⟨x,hx,(asgL_lit (hF c hc x hx)).1 ht⟩
 ·intro h c hc
  obtain⟨x,hx,ht⟩:=h c hc
  exact⟨x,hx,(asgL_lit (hF c hc x hx)).2 ht⟩
def trlL (n:Nat) (L:List Int):List Bool:=(List.range n).map fun i=>decide (((i+1:Nat):Int)∈L)
theorem trlL_len (n:Nat) (L:List Int):(trlL n L).length=n:=by simp [trlL]
theorem trlL_at {n:Nat} {L:List Int} {u:Nat} (h1:1≤u) (h2:u≤n):asgL (trlL n L) u=trlA L u:=by
 unfold asgL trlL trlA
 rw[List.getD_eq_getElem?_getD,List.getElem?_map,List.getElem?_range (by omega)]
 simp only[Option.map_some,Option.getD_some]
 rw[show u - 1+1=u by omega]
theorem LitT.congr {n:Nat} {σ τ:Nat→Bool} {x:Int} (hx:Lit n x) (h:∀u,1≤u→u≤n→σ u=τ u):LitT σ x↔LitT τ x:=by
 have:=varN_rng hx
 unfold LitT
 rw[h _ this.1 this.2]
theorem SatF.congr {n:Nat} {σ τ:Nat→Bool} {F:List (List Int)} (hF:∀c∈F,∀x∈c,Lit n x) (h:∀u,1≤u→u≤n→σ u=τ u) (hs:SatF σ F):SatF τ F:=fun c hc=>by
 obtain⟨x,hx,ht⟩:=hs c hc
 exact⟨x,hx,(LitT.congr (hF c hc x hx) h).1 ht⟩
section
variable {n:Nat} {F:List (List Int)} {A:List Int} {q:Int×List Bool×List Int×List (List Int)}
theorem SolvedOut.one (h:SolvedOut n F A q) (hn:n≤8):q.1=1∨q.1=2:=by
 obtain⟨t,h1,_⟩:=h
 rcases h1.res with ⟨e,_⟩|⟨e,_⟩|⟨_,_,_,e⟩
 ·exact .inl e
 ·exact .inr e
 ·exfalso
  have:3 ^ n≤3 ^ 8:=Nat.pow_le_pow_right (by omega) hn
  have:3 ^ 8=6561:=by decide
  omega
theorem SolvedOut.litF (h:SolvedOut n F A q):∀c∈F,∀x∈c,Lit n x:=by
 obtain⟨t,h1,_⟩:=h
 exact fun c hc=>h1.lits c (List.mem_append.2 (.inl hc))
theorem SolvedOut.learned (h:SolvedOut n F A q) {σ:Nat→Bool} (hσ:SatF σ F):SatF σ (F++q.2.2.2):=by
 obtain⟨t,h1,_,_,e⟩:=h
 rw[e]
 exact h1.prf.sound hσ fun c hc x hx=>(h1.lits c hc x hx).1
theorem SolvedOut.unsat (h:SolvedOut n F A q) (h2:q.1=2) {σ:Nat→Bool} (hσ:SatF σ F) (hA:∀x∈A,LitT σ x):False:=by
 have hL:=h.learned hσ
 obtain⟨t,h1,_,_,e⟩:=h
 rcases h1.res with ⟨e1,_⟩|⟨_,_,P,e2,e3,_,e4⟩|⟨e1,_⟩
 ·omega
 ·rw[e,e2] at hL
  obtain⟨y,hy,ht⟩:=hL (t.core.map fun y=> -y) (by simp)
  obtain⟨x,hx,rfl⟩:=List.mem_map.1 hy
  exact(LitT.neg (e4 x hx).1).1 ht (hA x (e3 x hx))
 ·omega
theorem SolvedOut.sat (h:SolvedOut n F A q) (h2:q.1=1):∃L,Least n F A L∧q.2.1=trlL n L∧q.2.2.1=[]:=by
 obtain⟨t,h1,e1,e3,_⟩:=h
 rcases h1.res with ⟨_,L,e2,e4,hl⟩|⟨e2,_⟩|⟨e2,_⟩
 ·refine⟨L,hl,?_,by rw[e3,e4]⟩
  rw[e1,e2]
  unfold valsT trlL
  apply List.map_congr_left
  intro i hi
  have hi:=List.mem_range.1 hi
  rw[valV_get L (by omega)]
  by_cases h3:((i+1:Nat):Int)∈L
  ·rw[if_pos h3,decide_eq_true h3];rfl
  ·rw[if_neg h3,decide_eq_false h3,decide_eq_false_iff_not]
   split<;>omega
 ·omega
 ·omega
theorem SolvedOut.satv (h:SolvedOut n F A q) (h2:q.1=1):q.2.1.length=n∧allM q.2.1 F=true:=by
 obtain⟨L,hl,e,_⟩:=h.sat h2
 rw[e]
 refine⟨trlL_len n L,(asgL_sat h.litF).1 (SatF.congr h.litF (fun u h1 h2=>(trlL_at h1 h2).symm) hl.sat)⟩
theorem SolvedOut.iff (h:SolvedOut n F A q) (hn:n≤8) (hA:∀x∈A,Lit n x):q.1=1↔∃v:List Bool,v.length=n∧allM v F=true∧eachM v A=true:=by
 constructor
 ·intro h2
  obtain⟨L,hl,e,_⟩:=h.sat h2
  obtain⟨q1,q2⟩:=h.satv h2
  refine⟨q.2.1,q1,q2,?_⟩
  unfold eachM
  rw[List.all_eq_true]
  intro x hx
  rw[e,← asgL_lit (hA x hx)]
  exact(LitT.congr (hA x hx) fun u h1 h2=>(trlL_at h1 h2).symm).1 ((trlA_lit hl.trl hl.full (hA x hx)).2 (hl.asm x hx))
 ·rintro⟨v,q1,q2,q3⟩
  rcases h.one hn with e|e
  ·exact e
  ·exfalso
   refine h.unsat e ((asgL_sat h.litF).2 q2) fun x hx=>(asgL_lit (hA x hx)).2 ?_
   unfold eachM at q3
   exact List.all_eq_true.1 q3 x hx
end
end Go.Ab
/- Unit propagation's run,and what is derived:the same. -/
namespace Go.Ab
open Go Go.Proofs
theorem contra_iff {l:List Int}:contraM l=true↔∃x∈l,-x∈l:=by
 unfold contraM
 rw[List.any_eq_true]
 simp
theorem run_der {vars:Int} {cl:List (List Int)} {az:List Int} {A:Int→Prop} (hv:0≤vars) (hcl:∀c∈cl,withinM vars c=true) (hw:withinM vars az=true) (hc:contraM az=false) (hA:∀x∈az,A x):∀x∈(runM vars cl az).1,Der cl A x:=by
 refine run_ind1 hv hcl hw hc (fun t=>∀x∈t,Der cl A x) (fun x hx=> .asm (hA x ((startM_mem az x).1 hx))) fun t c x hcm hI _ ho hx _ _ y hy=>?_
 rcases List.mem_append.1 hy with hy|hy
 ·exact hI y hy
 ·rw[List.mem_singleton.1 hy]
  refine .unit hcm hx fun z hz hne=>?_
  rcases((openFrom_all t c [] [x] ho).2 z hz).2 with q|q
  ·exact hI _ q
  ·exact absurd (by simpa using q) hne
theorem impl_rup {vars:Int} {cl:List (List Int)} {c:List Int} (hv:0≤vars) (hcl:∀d∈cl,withinM vars d=true) (hc:withinM vars c=true):refImplM vars cl c=true↔Rup cl c:=by
 have hnz:∀d∈cl,∀x∈d,x≠0:=fun d hd x hx=>(withinM_spec (hcl d hd) x hx).1
 have hw:withinM vars (c.map fun x=>0 - x)=true:=by
  unfold withinM
  rw[List.all_eq_true]
  intro y hy
  obtain⟨x,hx,rfl⟩:=List.mem_map.1 hy
  have:=withinM_spec hc x hx
  simp only[decide_eq_true_eq]
  omega
 cases hcon:contraM (c.map fun x=>0 - x) with
 |true=>
  unfold refImplM
  rw[if_pos hcon]
  refine⟨fun _=>?_,fun _=>rfl⟩
  obtain⟨y,hy,hn⟩:=contra_iff.1 hcon
  obtain⟨x,hx,rfl⟩:=List.mem_map.1 hy
  obtain⟨z,hz,e⟩:=List.mem_map.1 hn
  refine .inr ⟨x,hx,?_⟩
  rw[show -x=z by omega];exact hz
 |false=>
  have hF:=run_fin hv hcl hw hcon
  unfold refImplM
  rw[if_neg (by rw[hcon];simp),decide_eq_true_eq]
  constructor
  ·intro h
   rcases hF.fin with ⟨q,_⟩|⟨j,hj,_,q⟩
   ·omega
   ·left
    have hd:=run_der (A:=NegC c) hv hcl hw hcon fun x hx=>by
     obtain⟨z,hz,rfl⟩:=List.mem_map.1 hx
     show -(0 - z)∈c
     rw[show -(0 - z)=z by omega];exact hz
    exact⟨cl[j],List.getElem_mem hj,fun y hy=>hd _ (status_one (hnz _ (List.getElem_mem hj)) q y hy)⟩
  ·intro h
   rcases hF.fin with ⟨_,q⟩|⟨j,hj,e,_⟩
   ·exfalso
    have hT:=hF.dist
    have hin:∀x,Der cl (NegC c) x→x∈(runM vars cl (c.map fun x=>0 - x)).1:=fun x hx=>by
     induction hx with
     | @asm x h=>
      rw[hF.mem]
      exact List.mem_append.2 (.inl (List.mem_map.2 ⟨-x,h,by omega⟩))
     | @unit d x hd hx _ ih=>exact status_zero hT (hnz d hd) (q d hd) ih
    rcases h with ⟨d,hd,hall⟩|⟨x,h1,h2⟩
    ·have:=status_zero (x:=0) hT (hnz d hd) (q d hd) fun y hy _=>hin _ (hall y hy)
     exact(hT.2 0 this).1 rfl
    ·have:contraM (c.map fun x=>0 - x)=true:=contra_iff.2 ⟨0 - x,List.mem_map.2 ⟨x,h1,rfl⟩,List.mem_map.2 ⟨-x,h2,by omega⟩⟩
     rw[hcon] at this;cases this
   ·omega
end Go.Ab
/- The laws through the layers:the examples at their heads. -/
namespace Go.Ab
open Go Go.Proofs
set_option maxRecDepth 20000
set_option maxHeartbeats 8000000
def stpsL (P:List (List Int)):List StepM:=P.map fun l=>⟨1,l,0⟩
theorem stpsL_enc (P:List (List Int)):P.map encJ=(stpsL P).map encS:=by
 unfold stpsL
 rw[List.map_map];rfl
theorem startSound {v:Int} {cl:List (List Int)} {s:List (List Int)}:SoundC ⟨v,cl,s⟩ (startC v cl) [] where
 len:=fun v h1 h2=>h1
 all:=fun v h1 h2=>h2
 pre:=fun v h1 h2=>⟨[],by rw[List.append_nil];rfl⟩
 noref:=fun hr v h1 h2=>by
  have hr:(cl.any fun c=>decide ((c.length:Int)=0))=true:=hr
  obtain⟨c,hc,h0⟩:=List.any_eq_true.1 hr
  have h0:c=[]:=List.eq_nil_of_length_eq_zero (by simpa using h0)
  have:=List.all_eq_true.1 h2 c hc
  rw[h0] at this
  simp [trueM] at this
def refB (n:Nat) (cl syms:List (List Int)) (l:List StepM):Bool:=decide ((runC ⟨n,cl,syms⟩ (startC n cl) l).2=l.length) && (runC ⟨n,cl,syms⟩ (startC n cl) l).1.ref
theorem refB_unsat {n:Nat} {cl syms:List (List Int)} {l:List StepM} (hin:InC n cl syms l) (h:refB n cl syms l=true) {v:List Bool} (h1:v.length=n) (h2:allM v cl=true):False:=by
 unfold refB at h
 rw[Bool.and_eq_true,decide_eq_true_eq] at h
 exact(sound_run (e:=⟨n,cl,syms⟩) (fun c hc=>(hin.hcl c hc).1) (by show(0:Int)≤n;omega) l startSound hin.ok hin.hl.2 h.1).2 h.2 v (by rw[h1]) h2
theorem wS_stps {n:Nat} {P:List (List Int)} (h:∀c∈P,c.length≤n):wS (stpsL P)≤P.length*(n+1):=by
 induction P with
 |nil=>simp [wS,stpsL]
 |cons c P ih=>
  have h1:=ih fun d hd=>h d (by simp [hd])
  have h2:=h c (by simp)
  unfold wS stpsL at*
  simp only[List.map_cons,List.sum_cons,List.length_cons,Nat.add_mul]
  omega
theorem SolvedOut.inC {n:Nat} {F:List (List Int)} {A:List Int} {q:Int×List Bool×List Int×List (List Int)} (h:SolvedOut n F A q) (hn:n≤8) {G:List (List Int)} (hG:∀c∈G,withinM n c=true∧c.length≤1000) (hGl:G.length≤1000):InC n G [] (stpsL q.2.2.2):=by
 obtain⟨t,h1,_,_,e⟩:=h
 have hlen:∀c∈t.proof,c.length≤2*n+2:=fun c hc=>by
  have:=nodup_leI (n:=2*n+2) (l:=c.map idxI) (by
   unfold List.Nodup
   rw[List.pairwise_map]
   exact(h1.nd c hc).imp_of_mem fun {a b} ha hb hab e=>hab (idxI_inj (h1.lits c (List.mem_append.2 (.inr hc)) a ha) (h1.lits c (List.mem_append.2 (.inr hc)) b hb) (by rw[e]))) fun v hv=>by
   obtain⟨a,ha,rfl⟩:=List.mem_map.1 hv
   have:=idxI_lt (h1.lits c (List.mem_append.2 (.inr hc)) a ha)
   omega
  simpa using this
 have hw:=wS_stps hlen
 have hp:=h1.plen2
 rw[e]
 refine⟨by omega,hG,hGl,⟨by simp,fun c hc=>by simp at hc⟩,⟨?_,fun s hs=>?_⟩,by unfold stpsL;rw[List.length_map];exact hp⟩
 ·have:t.proof.length*(2*n+2+1)≤20000*19:=Nat.mul_le_mul hp (by omega)
  omega
 ·unfold stpsL at hs
  obtain⟨c,hc,rfl⟩:=List.mem_map.1 hs
  have:=hlen c hc
  show c.length≤900
  omega
abbrev exF:List (List Int):=[[1,2],[-1,2],[1,-2]]
abbrev exG:List (List Int):=[[1,2],[-1,2],[1,-2],[-1,-2]]
theorem exF_one:∀v:List Bool,v.length=2→allM v exF=true→v=[true,true]:=by
 intro v h1 h2
 match v,h1 with
 |[a,b],_=>cases a<;>cases b<;>first|rfl|(exfalso;revert h2;decide)
theorem exG_none:∀v:List Bool,v.length=2→allM v exG=true→False:=by
 intro v h1 h2
 match v,h1 with
 |[a,b],_=>cases a<;>cases b<;>(revert h2;decide)
theorem ex_lit {F:List (List Int)} (h:(F.all fun c=>c.all fun x=>decide (x≠0∧ -2≤x∧x≤2))=true):∀c∈F,∀x∈c,Lit 2 x:=fun c hc x hx=>by
 rw[List.all_eq_true] at h
 have:=List.all_eq_true.1 (h c hc) x hx
 simp only[decide_eq_true_eq] at this
 exact⟨this.1,by omega,by omega⟩
theorem ex_small {F:List (List Int)} (h:∀c∈F,∀x∈c,Lit 2 x) (h2:(F.all fun c=>decide (c.length≤2))=true):(∀c∈F,c.length≤1000000∧∀x∈c,Lit 2 x)∧∀c∈F,withinM (2:Nat) c=true∧c.length≤1000:=by
 rw[List.all_eq_true] at h2
 refine⟨fun c hc=>⟨by have:=h2 c hc;simp at this;omega,h c hc⟩,fun c hc=>⟨?_,by have:=h2 c hc;simp at this;omega⟩⟩
 unfold withinM
 rw[List.all_eq_true]
 intro x hx
 obtain⟨_,_,_⟩:=h c hc x hx
 simp only[decide_eq_true_eq]
 omega
theorem ex_w:withinM (2:Nat) [1]=true:=by decide
attribute [local irreducible] AW AOps thenD inBlockD AR iterEnds roundEndsN inlEnds noGotoD canon sortL compL compZ metB imgL withinM symOk refImplM runC stepC
theorem headW_fn:Fn Try.prog 6 [] (litB true):=by
 obtain⟨f1,f2⟩:=ex_small (F:=exF) (ex_lit (by decide)) (by decide)
 obtain⟨g1,g2⟩:=ex_small (F:=exG) (ex_lit (by decide)) (by decide)
 have h1:=solved_fn 2 exF [] (by omega) (by simp) f1 (by simp) (by simp)
 have h2:=solved_fn 2 exG [1] (by omega) (by simp) g1 (by intro x hx;simp at hx;subst hx;exact⟨by omega,by omega,by omega⟩) (by simp)
 refine Fn.enter (n:=77) Try.func6 rfl rfl rfl rfl rfl (by decide) fun g hro_ hwt_=>?_;(try refine nz ?_)
 (refine zq ?_;refine Q145 ?_;refine Q255 ?_;refine AOps.bs3 rfl rfl rfl rfl rfl rfl rfl rfl rfl rfl rfl rfl rfl rfl ?_;refine Q289 ?_;refine AOps.frzC rfl rfl ?_;refine nz ?_;(with_reducible apply AOps.callR (hf:=h1));(with_reducible assumption);(iterate 3 exact rfl);(repeat (first|exact trivial|refine⟨rfl,?_⟩));(repeat (first|exact .nil|(refine .cons ?_ ?_;(first|exact .eq rfl rfl|exact .nil _|exact .any _))));(intro x_;exact rfl);exact rfl;(repeat (first|exact trivial|refine⟨rfl,?_⟩|refine⟨obIds_set,?_⟩));(intro x_;(repeat (first|exact trivial|refine⟨rfl,?_⟩|refine⟨obIds_set,?_⟩)));(intro x_;exact rfl);exact rfl;(intro x_ hx_);refine Q92 ?_;refine AW.stopS 3 ?_)
 obtain⟨k,vals,core,P⟩:=x_
 have hs:=hx_
 simp only at hs ⊢
 have hk:k=1:=(hs.iff (by omega) (by simp)).2 ⟨[true,true],rfl,by decide,by decide⟩
 subst hk
 obtain⟨q1,q2⟩:=hs.satv rfl
 have hv:=exF_one vals q1 q2
 subst hv
 refine Stop.go ?_
 (refine Q52 ?_;refine Q151 ?_;refine nz ?_;refine Q255 ?_;refine AOps.frzB rfl rfl ?_;refine nz ?_;refine AOps.bs4 rfl rfl rfl rfl rfl rfl rfl rfl rfl rfl rfl rfl rfl rfl rfl rfl rfl ?_;refine Q289 ?_;refine Q71 ?_;refine AOps.frzC rfl rfl ?_;refine nz ?_;refine AOps.frzC rfl rfl ?_;refine nz ?_;(with_reducible apply AOps.callR (hf:=h2));(with_reducible assumption);(iterate 3 exact rfl);(repeat (first|exact trivial|refine⟨rfl,?_⟩));(repeat (first|exact .nil|(refine .cons ?_ ?_;(first|exact .eq rfl rfl|exact .nil _|exact .any _))));(intro x_;exact rfl);exact rfl;(repeat (first|exact trivial|refine⟨rfl,?_⟩|refine⟨obIds_set,?_⟩));(intro x_;(repeat (first|exact trivial|refine⟨rfl,?_⟩|refine⟨obIds_set,?_⟩)));(intro x_;exact rfl);exact rfl;(intro x_ hx_);refine Q92 ?_;refine zo ?_;refine AW.stopS 5 ?_)
 obtain⟨k2,vals2,core2,P2⟩:=x_
 have hs2:=hx_
 simp only at hs2 ⊢
 refine Stop.go ?_
 have hk2:k2=2:=(hs2.one (by omega)).resolve_left fun e=>by
  obtain⟨q1,q2⟩:=hs2.satv e
  exact exG_none vals2 q1 q2
 subst hk2
 have hcl:core2.length≤1∧0<P2.length:=by
  obtain⟨t,t1,_,t2,t3⟩:=hs2
  rcases t1.res with ⟨e,_⟩|⟨_,_,Q,e1,e2,e3,_⟩|⟨e,_⟩
  ·cases e
  ·have t2:core2=t.core:=t2
   have t3:P2=t.proof:=t3
   refine⟨?_,by rw[t3,e1];simp⟩
   rw[t2]
   match t.core,e2,e3 with
   |[],_,_=>simp
   |[a],_,_=>simp
   |a::b::r,e2,e3=>
    exfalso
    have ha:=e2 a (by simp)
    have hb:=e2 b (by simp)
    simp at ha hb
    subst ha
    subst hb
    simp at e3
  ·cases e
 obtain⟨c1,c2⟩:=hcl
 have hin:=hs2.inC (by omega) (G:=exF) f2 (by simp)
 have hr:=refutes_fn (2:Nat) exF [] (stpsL P2) hin
 have hrf:refB 2 exF [] (stpsL P2)=false:=by
  cases h:refB 2 exF [] (stpsL P2) with
  |false=>rfl
  |true=>exact(refB_unsat hin h (v:=[true,true]) rfl (by decide)).elim
 unfold refB at hrf
 rw[hrf] at hr
 rw[show steps (stpsL P2)=PV.slice 3 (P2.map encJ) from by rw[stpsL_enc]] at hr
 have hi:=impl_fn (2:Nat) exG [1] ⟨by omega,fun c hc=>⟨(g2 c hc).1,by have:=(g2 c hc).2;omega⟩,by simp⟩ (by simp) ex_w
 rw[show refImplM (2:Nat) exG [1]=true by decide+kernel] at hi
 have hP:¬((P2.length:Nat):Int)=0:=by omega
 (refine Q262 ?_;refine zn ?_;refine AOps.neq rfl rfl rfl rfl rfl ?_;refine zm ?_;refine Q91 ?_;refine zn ?_;refine Q204 ?_;refine Q116 ?_;refine Q262 ?_;refine AOps.eql rfl rfl rfl rfl rfl ?_;refine zm ?_;refine Q91 ?_;refine AOps.index_pvI rfl rfl rfl rfl rfl rfl rfl rfl (by omega) ?_;refine nz ?_;refine zl ?_;refine zr ?_;refine Q298 ?_;refine Q91 ?_;refine AOps.index_pvI rfl rfl rfl rfl rfl rfl rfl rfl (by omega) ?_;refine nz ?_;refine zl ?_;refine zr ?_;refine Q298 ?_;refine Q91 ?_;refine AOps.eql rfl rfl rfl rfl rfl ?_;refine Q298 ?_;refine Q91 ?_;refine zn ?_;refine zl ?_;refine AOps.leq rfl rfl rfl rfl rfl ?_;refine Q298 ?_;refine zt ?_;refine Q284 ?_;refine Q178 ?_;refine zA (hr) ?_;refine zt ?_;refine AOps.not rfl rfl rfl ?_;refine zT ?_;refine zm ?_;refine zl ?_;refine Q284 ?_;refine zl ?_;refine Q71 ?_;refine zl ?_;refine zA (hi) ?_;refine Q268 ?_)
 (apply ends_ret;(exact Res.one (.tmp rfl rfl));(refine Le.litB ?_;(first|rfl)))
end Go.Ab
