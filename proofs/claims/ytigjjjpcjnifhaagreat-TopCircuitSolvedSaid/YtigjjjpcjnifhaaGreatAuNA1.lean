/- The solver: the search, walked. -/
import Derived.Test.YtigjjjpcjnifhaaGreatAuB8
import Derived.Test.YtigjjjpcjnifhaaGreatAbZ
import Derived.Test.YtigjjjpcjnifhaaGreatAbL3
import Derived.Test.YtigjjjpcjnifhaaGreatAuS5
import Derived.Test.YtigjjjpcjnifhaaGreatAbL4
import Derived.Test.YtigjjjpcjnifhaaGreatAuC2
import Derived.Test.YtigjjjpcjnifhaaGreatAuA3
import Derived.Test.YtigjjjpcjnifhaaGreatAuS7
set_option linter.unusedSimpArgs false
set_option linter.unusedVariables false
open List renaming getElem_mem→cY,length_append→bW,length_singleton→c7,pairwise_map→dC,mem_map→bx,length_map→a6,eq_nil_of_length_eq_zero→bk,length_take→cO,getD_eq_getElem?_getD→c6,getElem?_eq_none→cH,length_take_le→dJ,take_succ_eq_append_getElem→dk,map_append→cR,take_length→c8,replicate→bZ,range→bc,mem_append→bX,all_eq_true→bD,any_eq_true→dc,map_congr_left→dK,mem_range→dG,mem_singleton→cq,length_cons→dL,getElem?_append_left→aT,getElem?_append_right→aV,getElem?_eq_getElem→a8
open Nat renaming reduceBEq→df,zero_le→bm,blt→aY,le_refl→aP,pow_succ→dM,le_succ→dN
open Int renaming toNat_natCast→dq
open Bool renaming and_eq_true→aZ
namespace Go.Ab
open Go Go.Proofs
open Nat (reduceAdd reduceSub)
set_option maxRecDepth 20000
set_option maxHeartbeats 8000000
attribute [local irreducible] gG AW a_ gr fz AR fH fv fM gk lk me eX
theorem Ei (n:Nat) (s:SR) (t:Nat) (ht:t<s.marks.length) (hn:n≤20000) (hv:s.value.length=n+1) (iU:kd n (s.ll 0)) (mk:∀m∈s.marks,0≤m∧m.toNat≤(s.ll 0).length) (Tq:0≤s.low∧s.low≤1000000):oP Tryz.prog 58 11 (ie s) [.ptr 0 0,eU t] (ie (gw s t)) (.gY []):=by
 have hl:=iU.len
 exact BL s (Gz s t) t (Mi s t ht (mk _ (cY ht)) aJ Tq fun x hx=>by
  obtain⟨_,_,_⟩:=iU.zK x hx
  refine⟨by omega,?_⟩
  rw[hv]
  unfold fk;omega)
theorem y3 (n:Nat) (s:SR) (hs:fY n s) (Tq:y4 n s):∃s':SR,oP Tryz.prog 58 11 (ie s) [.ptr 0 0,eU 0] (ie s') (.gY [])∧s'.proof=s.proof∧s'.model=s.model∧s'.core=s.core:=by
 by_cases h:0<s.marks.length
 ·refine⟨gw s 0,?_,rfl,rfl,rfl⟩
  obtain⟨k,q1,q2,q3,_⟩:=Tq
  have hn:=hs.hn
  exact Ei n s 0 h hs.hn (by rw[hs.val,kE]) hs.iU (fun m hm=>by have:=hs.oW m hm;have:=hs.hd;omega) (by omega)
 ·refine⟨Gx s,BL s s 0 (xw s 0 aJ),rfl,rfl,rfl⟩
theorem L9 (n:Nat) (F:List (List Int)) (k:Nat) (s:SR) (hS:mO n F k s) (hk:k≤60000) (A:List Int) (hA:∀x∈A,Lit n x) (hAl:A.length≤50000) (fuel:Nat) (JY:0<fuel) (Xj:fuel≤20000):vo Tryz.prog 28 11 (ie s) [.ptr 0 0,.pv (ke A),eU (fuel:Nat)] (fun q:SR×Int=>lC n F A fuel q.1 q.2) (fun q=>ie q.1) (fun q=>eU q.2):=by
 have X5:=hS.sj (A:=A) JY
 obtain⟨s1,zx⟩:∃s1,s1={s with core:=[],model:=[]}:=⟨_,rfl⟩
 have hbox:ie {s with core:=[],model:=[]}=ie s1:=by rw[zx]
 rw[← zx] at X5
 have jM:=X5.si.inv
 have sA:=jM.hn
 have ld:=CM n s1 A sA (by rw[jM.val,kE]) hA
 have hmk0:s1.marks=[]:=by rw[zx];exact hS.marks
 have Tt:=BL s1 s1 0 (xw s1 0 (by rw[hmk0];simp))
 rw[Lq jM] at Tt
 simp only[ie,ij] at ld Tt ⊢
 refine vo.enter (n:=151) Tryz.func28 rfl rfl rfl rfl rfl (by decide) rfl (fun _=>rfl) fun g fp fl=>?_;refine s9 ?_
 refine AW.jK 1 rfl fun hlen=>?_
 (refine zq ?_;refine lK ?_;refine AW.scope ?_;refine kJ ?_;refine GW ?_;refine a_.c_ 96 9 14 rfl rfl rfl rfl ?_;(with_reducible apply a_.gy);(iterate 5 exact rfl);exact ag;(iterate 3 exact rfl);(with_reducible assumption);refine J5 ?_;refine a_.c_ 96 8 13 rfl rfl rfl rfl ?_;(with_reducible apply a_.gy);(iterate 5 exact rfl);exact ag;(iterate 3 exact rfl);(with_reducible assumption);refine Q0 ?_;refine kW ?_;refine AW.mS 2 ?_)
 refine Stop.go ?_
 refine AW.fe (δ':=⟨151,[(0,.ptr 0 0),(1,.pv (ke A)),(2,eU (fuel:Nat)),(1000,.agg [.ptr 0 0])],ie s1,11⟩) ?_ ?_
 ·subst zx
  exact fe rfl (by(refine aC ?_;refine aG ?_;refine aD ?_;refine aC ?_;exact trivial)) (by(refine⟨.box _ rfl ?_,?_⟩;(iterate 3 refine aE ?_);refine aD ?_;refine aE ?_;refine aD ?_;(iterate 2 refine aE ?_);(iterate 3 refine aD ?_);refine aE ?_;refine aD ?_;(iterate 2 refine⟨.Ml (by first|rfl),?_⟩);exact trivial;(iterate 3 refine aF ?_);refine aH ?_;(iterate 2 refine aF ?_);refine aH ?_;refine aF ?_;refine aH ?_;refine aF ?_;exact trivial)) rfl
 simp only[ie,ij]
 have hf0':¬(fuel:Int)≤0:=by omega
 (refine EX ?_;refine zm ?_;refine zX (ld) ?_;refine k9 ?_;refine IJ ?_;refine rA ?_;refine a_.leq rfl rfl rfl rfl rfl ?_;refine Ku ?_;refine wP ?_;refine zX (Tt) ?_;refine k9 ?_;refine ko ?_;refine kc ?_;refine AW.label ?_;refine iB ?_;refine zo ?_;refine AW.block ?_)
 (refine Q0 ?_;apply AW.gJ [0,1,2,1000] [1,2,3,5,6,8,10] (fun q:SR×Nat=>([(7,eU (q.2:Nat))]:List (Nat×AV))) (fun q:SR×Nat=>([(0,some (.box [.own 1 3 1 ((q.1.value).map encI),.own 2 3 1 ((q.1.level).map encI),.own 3 3 1 ((q.1.reason).map encI),.pv (.lit (q.1.hl 0)),.own 5 3 1 ((q.1.marks).map encI),eU (q.1.low),.own 6 25 1 (gG q.1.nc q.1.hc),.own 8 25 1 (gG q.1.nw q.1.hw),eU (q.1.head),eU (q.1.added),fq (q.1.broken),.own 10 44 3 ((q.1.proof).map qv),eU 0,.pv (ke (q.1.model)),.pv (ke (q.1.core))])),(4,some (.fb 3 (kK q.1.hl q.1.ll))),(7,some (.fb 3 (kK q.1.hc q.1.cl))),(9,some (.fb 3 (kK q.1.hw q.1.wl)))]:List (Nat×Option Ob))) (fun q:SR×Nat=>SJ n F A k fuel q.1 q.2) (fun q:SR×Nat=>(fuel - q.2)*(A.length+n+2)+(A.length - q.1.marks.length)+(n - (q.1.ll 0).length)) ((s1,0));(conv=>lhs;simp only[Nf.ot,Nf.all,df,reduceAdd,reduceSub]);(all_goals skip))
 ·exact X5
 ·exact fe rfl (by(refine aD ?_;refine aC ?_;refine aG ?_;refine aD ?_;refine aC ?_;exact trivial)) (by(refine⟨.box _ rfl ?_,?_⟩;(iterate 3 refine aE ?_);refine aD ?_;refine aE ?_;refine aD ?_;(iterate 2 refine aE ?_);(iterate 3 refine aD ?_);refine aE ?_;refine aD ?_;(iterate 2 refine aG ?_);exact trivial;(iterate 3 refine aH ?_);(iterate 7 refine aF ?_);exact trivial)) rfl
 rintro⟨σ,met⟩ hσ
 simp only at hσ
 have hsi:=hσ.si.inv
 have hmf:=hσ.mf
 obtain⟨KU,hp3⟩:=hσ.plen
 have y6:=hσ.lv.len hsi
 have hP:=Cf n σ hsi (by omega)
 have hpl':¬(20000:Int)≤(σ.proof.length:Int):=by omega
 simp only[ie,ij] at hP
 (refine AW.block ?_;refine zo ?_;refine kJ ?_;refine pJ ?_;refine a_.c_ 96 6 11 rfl rfl rfl rfl ?_;refine zb ?_;refine a_.hY rfl rfl rfl rfl ?_;refine a_.geq rfl rfl rfl rfl rfl ?_;refine uD ?_;refine wP ?_;(with_reducible apply a_.kI (hf:=hP));(with_reducible assumption);(iterate 3 exact rfl);exact aq;exact ak;(intro x_;exact rfl);exact rfl;exact al;(intro x_;exact al);(intro x_;exact rfl);exact rfl;(intro x_ rL);refine k9 ?_;refine wX ?_;refine AW.mS 14 ?_)
 obtain⟨τ,r⟩:=x_
 have hτ:=hσ.prop rL
 have mY:=hτ.si.inv
 have II:=rL.ext.marks
 have FL:(σ.ll 0).length≤(τ.ll 0).length:=by obtain⟨ys,e⟩:=rL.ext.ll;rw[e,bW];omega
 have EY:=rL.res
 have kY:=mY.iU.len
 have A_:=mY.nc
 have EA:τ.value.length=n+1:=by rw[mY.val,kE]
 obtain⟨Y5,_⟩:=hτ.plen
 have Za:=hτ.lv.len mY
 simp only at hτ mY II FL EY kY A_ EA Y5 Za ⊢
 refine Stop.go ?_
 by_cases TN:τ.broken=true∨(r≠ -1∧τ.marks=[])
 ·have Vj:um (F++τ.proof) Lm:=by
   rcases TN with q|⟨q1,q2⟩
   ·exact hτ.si.kq.bad q
   ·rcases EY with ⟨q,_⟩|⟨j,hj,_,hf⟩
    ·exact absurd q q1
    ·exact hτ.si.kq.Wh mY q2 hj hf
  have Bh:=Lw {τ with broken:=true} [] (by simp) (fun x hx=>by simp at hx) (by show τ.proof.length≤_;omega)
  have mq:=hτ.Ya (t:={τ with broken:=true,core:=[],proof:=τ.proof++ [([]:List Int).map fun y=> -y]}) Xj Vj rfl rfl hτ.model
  simp only[ie,ij] at Bh
  cases Hi:τ.broken with
  |true=>
   (refine K6 ?_;refine iY ?_;(iterate 3 refine a_.gE rfl rfl rfl rfl rfl rfl rfl ?_);(iterate 7 refine a_.Po rfl rfl rfl rfl rfl rfl ?_);refine IK ?_;refine lK ?_;refine AW.oQ rfl rfl ?_;refine K6 ?_;(with_reducible apply a_.gy);(iterate 5 exact rfl);exact ag;(iterate 3 exact rfl);(with_reducible assumption);refine V7 ?_)
   (apply hX ((({τ with broken:=true,core:=[],proof:=τ.proof++ [([]:List Int).map fun y=> -y]},2):SR×Int)) (mq);((exact gm.one (.tmp rfl rfl)));((exact qA));((exact Q2));exact rfl)
  |false=>
   rw[Hi] at TN
   obtain⟨Zs,He⟩:=TN.resolve_left (by simp)
   have XU:decide (r≠ -1)=true:=by simpa using Zs
   have Y4:(τ.marks.length:Int)=0:=by rw[He];rfl
   (refine K6 ?_;refine iY ?_;refine rA ?_;refine a_.neq rfl rfl rfl rfl rfl ?_;refine zl ?_;refine zm ?_;refine SF ?_;refine a_.c_ 94 4 4 rfl rfl rfl rfl ?_;refine zt ?_;refine zb ?_;refine zt ?_;refine a_.hY rfl rfl rfl rfl ?_;refine zt ?_;refine a_.eql rfl rfl rfl rfl rfl ?_;refine zl ?_;refine zT ?_;refine a_.kr rfl rfl rfl rfl rfl rfl ?_;refine lK ?_;refine zc ?_;refine K6 ?_;(with_reducible apply a_.gy);(iterate 5 exact rfl);exact ag;(iterate 3 exact rfl);(with_reducible assumption);refine V7 ?_)
   (apply hX ((({τ with broken:=true,core:=[],proof:=τ.proof++ [([]:List Int).map fun y=> -y]},2):SR×Int)) (mq);((exact gm.one (.tmp rfl rfl)));((exact qA));((exact Q2));exact rfl)
 ·have Hi:τ.broken=false:=by
   cases h:τ.broken with
   |true=>exact absurd (.inl h) TN
   |false=>rfl
  rcases EY with ⟨rfl,MW⟩|⟨j,hj,rfl,hf⟩
  ·by_cases fy:τ.marks.length<A.length
   ·have vT:((τ.marks.length:Nat):Int).toNat<A.length:=by rw[dq];exact fy
    obtain⟨x,hx⟩:∃x,x=A[τ.marks.length]:=⟨_,rfl⟩
    have Ct:A[τ.marks.length]=x:=hx.symm
    have Om:x∈A:=by rw[hx];exact cY fy
    have wk:=hA x Om
    by_cases JA:x∈τ.ll 0
    ·have w6:=lG (s:=τ) mY.val mY.iU sA wk (r:=1) (if_pos JA).symm
     have wm:=F7 τ aJ (by omega)
     have sO:=hτ.Ka MW fy (by rw[Ct];exact JA)
     simp only[ie,ij] at w6 wm
     (refine Vo ?_;refine zc ?_;refine qw ?_;refine wx ?_;refine BT ?_;refine aA ?_;refine zr ?_;refine lK ?_;(with_reducible apply AW.xe 25);(rw[← hx]);refine Rk ?_;refine AW.j8 rfl rfl ?_;refine kJ ?_;refine wY ?_;refine AW.oQ rfl rfl ?_;refine tu ?_;refine wx ?_;refine zX (wm) ?_;refine k9 ?_;refine a_.nil ?_;(iterate 3 refine ix ?_);refine iB ?_)
     exact⟨(iA τ,met),sO,by show(fuel - met)*(A.length+n+2)+(A.length - (τ.marks++ [_]).length)+(n - (τ.ll 0).length)<(fuel - met)*(A.length+n+2)+(A.length - σ.marks.length)+(n - (σ.ll 0).length);rw[bW,c7,← II];omega,fe rfl (by(refine aD ?_;refine aC ?_;refine aG ?_;refine aD ?_;refine aC ?_;exact trivial)) (by(refine⟨.box _ rfl ?_,?_⟩;(iterate 3 refine aE ?_);refine aD ?_;refine aE ?_;refine aD ?_;(iterate 2 refine aE ?_);(iterate 3 refine aD ?_);refine aE ?_;refine aD ?_;(iterate 2 refine aG ?_);exact trivial;(iterate 3 refine aH ?_);(iterate 7 refine aF ?_);exact trivial)) rfl⟩
    ·by_cases ve: -x∈τ.ll 0
     ·have w6:=lG (s:=τ) mY.val mY.iU sA wk (r:= -1) (by rw[if_neg JA,if_pos ve])
      have zH:=Kr n τ mY x ve
      obtain⟨s4,PW,f1,f2,f3⟩:=y3 n τ mY hτ.si.low
      simp only[ie,ij] at w6 zH PW
      (refine Vo ?_;refine zc ?_;refine qw ?_;refine wx ?_;refine BT ?_;refine aA ?_;refine zr ?_;refine lK ?_;(with_reducible apply AW.xe 25);(rw[← hx]);refine Rk ?_;refine AW.oQ rfl rfl ?_;refine wP ?_;refine zm ?_;(with_reducible apply a_.kI (hf:=zH));(with_reducible assumption);(iterate 3 exact rfl);exact aq;exact ak;(intro x_;exact rfl);exact rfl;exact al;(intro x_;exact al);(intro x_;exact rfl);exact rfl;(intro x_ rL);refine k9 ?_;refine lK ?_;refine wP ?_;refine zX (PW) ?_;refine k9 ?_;refine zd ?_;refine AW.mS 30 ?_)
      refine Stop.go ?_
      have DB:=rL
      obtain⟨_,_,iX⟩:=DB.core hτ.si fy Om ve
      have Uq:x_.length≤100000:=by
       have:=kO (n:=2*n+2) (l:=x_.map eX) (by
        unfold List.Nodup
        rw[dC]
        exact(DB.core hτ.si fy Om ve).2.1.imp_of_mem fun {a b} ha hb sS e=>sS (iw (iX a ha) (iX b hb) (by rw[e]))) fun v hv=>by
        obtain⟨a,ha,rfl⟩:=bx.1 hv
        have:=gT (iX a ha)
        omega
       simp only[a6] at this
       omega
      have Bh:=Lw s4 x_ Uq (fun y hy=>by obtain⟨_,_,_⟩:=iX y hy;omega) (by rw[f1];omega)
      have mq:=hτ.Z1 (t:={s4 with core:=x_,proof:=s4.proof++ [x_.map fun y=> -y]}) Xj DB fy Om ve (by show s4.proof++_=_;rw[f1]) rfl (by show s4.model=_;rw[f2];exact hτ.model)
      simp only[ie,ij] at Bh
      (refine EX ?_;refine zm ?_;refine zX (Bh) ?_;refine k9 ?_;refine ku ?_;(iterate 3 refine ic ?_);refine DE ?_;refine gV ?_;refine oJ ?_)
      (apply hX ((({s4 with core:=x_,proof:=s4.proof++ [x_.map fun y=> -y]},2):SR×Int)) (mq);((exact gm.one (.tmp rfl rfl)));((exact qA));((exact Q2));exact rfl)
     ·have w6:=lG (s:=τ) mY.val mY.iU sA wk (r:=0) (by rw[if_neg JA,if_neg ve])
      obtain⟨g1,g2,g3⟩:=wk
      have T2:=yY τ x g1 aJ aJ (by rw[mY.lvl,EA]) (by rw[mY.pH,EA]) aJ (by omega)
      have sO:=fun h:Value=>hτ.Yt MW fy (by rw[Ct];exact hA x Om) (by rw[Ct];exact JA) (by rw[Ct];exact ve) h
      rw[Ct] at sO
      have hlen:=(sO (.bool true)).si.inv.iU.len
      rw[j5,bW,c7] at hlen
      simp only[ie,ij] at w6 T2
      (refine Vo ?_;refine zc ?_;refine qw ?_;refine wx ?_;refine BT ?_;refine aA ?_;refine zr ?_;refine lK ?_;(with_reducible apply AW.xe 25);(rw[← hx]);refine Rk ?_;refine AW.j8 rfl rfl ?_;refine kJ ?_;refine wY ?_;refine AW.j8 rfl rfl ?_;refine tu ?_;refine tN ?_;(with_reducible apply a_.kI (hf:=T2));(with_reducible assumption);(iterate 3 exact rfl);exact aq;exact ak;(intro x_;exact rfl);exact rfl;exact al;(intro x_;exact al);(intro x_;exact rfl);exact rfl;(intro x_ rL);refine k9 ?_;refine a_.nil ?_;(iterate 3 refine ix ?_);refine iB ?_)
      exact⟨(fO (iA τ) x (-1) x_,met),sO x_,by show(fuel - met)*(A.length+n+2)+(A.length - (τ.marks++ [_]).length)+(n - ((fO (iA τ) x (-1) x_).ll 0).length)<(fuel - met)*(A.length+n+2)+(A.length - σ.marks.length)+(n - (σ.ll 0).length);rw[j5,bW,bW,c7,c7,← II];have:(iA τ).ll 0=τ.ll 0:=rfl;rw[this];omega,fe rfl (by(refine aD ?_;refine aC ?_;refine aG ?_;refine aD ?_;refine aC ?_;exact trivial)) (by(refine⟨.box _ rfl ?_,?_⟩;(iterate 3 refine aE ?_);refine aD ?_;refine aE ?_;refine aD ?_;(iterate 2 refine aE ?_);(iterate 3 refine aD ?_);refine aE ?_;refine aD ?_;(iterate 2 refine aG ?_);exact trivial;(iterate 3 refine aH ?_);(iterate 7 refine aF ?_);exact trivial)) rfl⟩
   ·obtain⟨k0,q1,q2,q3,_⟩:=id hτ.si.low
    have D9:=M7 τ k0 q1 aJ (by omega)
    by_cases Vn:lq τ.value k0=τ.value.length
    ·rw[if_pos Vn] at D9
     have GY:=hτ.full q1 Vn
     have qU:fY n {τ with low:=(lq τ.value k0:Int),model:=τ.value}:={hn:=mY.hn,iU:=mY.iU,val:=mY.val,lvl:=mY.lvl,pH:=mY.pH,hd:=mY.hd,oW:=mY.oW,nM:=mY.nM,cls:=mY.cls,fresh:=mY.fresh,nc:=mY.nc,nw:=mY.nw,wt:=mY.wt,sJ:=mY.sJ,sH:=mY.sH,two:=mY.two,qK:=mY.qK,q7:=mY.q7}
     have tJ:y4 n {τ with low:=(lq τ.value k0:Int),model:=τ.value}:=⟨n+1,by show(lq τ.value k0:Int)=_;rw[Vn,EA],by omega,by omega,fun u h1 h2=>GY u h1 aJ⟩
     obtain⟨s4,PW,f1,f2,f3⟩:=y3 n _ qU tJ
     have mq:=hτ.Yy (t:=s4) Xj Hi MW aJ GY f1 (by rw[f3];exact hτ.core) f2
     simp only[ie,ij] at D9 PW
     have Yb:0<(τ.value.map encI).length:=by rw[a6];omega
     (refine Vo ?_;refine zk ?_;refine vh ?_;refine zX (D9) ?_;refine k9 ?_;refine vt ?_;refine qI ?_;refine xj ?_;refine kJ ?_;refine GW ?_;refine a_.c_ 96 0 0 rfl rfl rfl rfl ?_;refine a_.c_ 94 0 0 rfl rfl rfl rfl ?_;refine zb ?_;(with_reducible apply a_.inline (hf:=Tryz.func66));(with_reducible assumption);(iterate 10 exact rfl);intro g_ fp fl;refine Q0 ?_;refine zq ?_;refine vt ?_;refine a_.fX rfl rfl rfl ?_;(with_reducible apply a_.I_);(iterate 6 exact rfl);(with_reducible assumption);refine aB ?_;refine nY ?_;refine zq ?_;refine a_.TE rfl rfl rfl rfl rfl ?_;refine Q0 ?_;refine a_.fX rfl rfl rfl ?_;(with_reducible apply a_.fD);exact rfl;exact ah;(iterate 9 exact rfl);exact aa;refine Q0 ?_;refine xV ?_;refine Cb rfl rfl ?_;refine J5 ?_;refine a_.c_ 96 8 13 rfl rfl rfl rfl ?_;(with_reducible apply a_.gy);(iterate 5 exact rfl);exact ag;(iterate 3 exact rfl);(with_reducible assumption);refine Q0 ?_;refine zd ?_;refine AW.mS 11 ?_)
     refine Stop.go ?_
     refine AW.Su 11 rfl ?_
     refine aB ?_
     (refine EX ?_;refine zX (PW) ?_;refine k9 ?_;refine ko ?_;refine qP ?_;(iterate 2 refine ic ?_);refine DE ?_;refine gV ?_;refine oJ ?_)
     (apply hX (((s4,1):SR×Int)) (mq);((exact gm.one (.tmp rfl rfl)));((exact qA));((exact Q2));exact rfl)
    ·rw[if_neg Vn] at D9
     obtain⟨v,e,g1,g2,g3,g4,g5,hJ2⟩:=hτ.free q1 Vn
     rw[e] at D9
     have Ke:¬(v:Int)=0:=by omega
     have T2:=yY {τ with low:=(v:Int)} (-(v:Int)) aJ aJ (by show _<(τ.value.length:Int)∧_<(τ.value.length:Int);omega) (by show τ.level.length=τ.value.length;rw[mY.lvl,EA]) (by show τ.reason.length=τ.value.length;rw[mY.pH,EA]) (by show(τ.ll 0).length≤_;omega) (by show τ.marks.length≤_;omega)
     have sO:=fun h:Value=>hJ2.YE MW (by show A.length≤τ.marks.length;omega) g1 g2 g3 g4 g5 h
     have hlen:=(sO (.bool true)).si.inv.iU.len
     rw[j5,bW,c7] at hlen
     have hlen:(τ.ll 0).length+1≤n:=hlen
     simp only[ie,ij] at D9 T2
     (refine Vo ?_;refine zk ?_;refine vh ?_;refine zX (D9) ?_;refine k9 ?_;refine vt ?_;refine qI ?_;refine uD ?_;refine tu ?_;refine tN ?_;refine a_.neg rfl rfl rfl aJ ?_;(with_reducible apply a_.kI (hf:=T2));(with_reducible assumption);(iterate 3 exact rfl);exact aq;exact ak;(intro x_;exact rfl);exact rfl;exact al;(intro x_;exact al);(intro x_;exact rfl);exact rfl;(intro x_ rL);refine k9 ?_;refine a_.nil ?_;(iterate 2 refine ix ?_);refine iB ?_)
     exact⟨(fO (iA {τ with low:=(v:Int)}) (-(v:Int)) (-1) x_,met),sO x_,by show(fuel - met)*(A.length+n+2)+(A.length - (τ.marks++ [_]).length)+(n - ((fO (iA {τ with low:=(v:Int)}) (-(v:Int)) (-1) x_).ll 0).length)<(fuel - met)*(A.length+n+2)+(A.length - σ.marks.length)+(n - (σ.ll 0).length);rw[j5,bW,bW,c7,c7,← II];have:(iA {τ with low:=(v:Int)}).ll 0=τ.ll 0:=rfl;rw[this];omega,fe rfl (by(refine aD ?_;refine aC ?_;refine aG ?_;refine aD ?_;refine aC ?_;exact trivial)) (by(refine⟨.box _ rfl ?_,?_⟩;(iterate 3 refine aE ?_);refine aD ?_;refine aE ?_;refine aD ?_;(iterate 2 refine aE ?_);(iterate 3 refine aD ?_);refine aE ?_;refine aD ?_;(iterate 2 refine aG ?_);exact trivial;(iterate 3 refine aH ?_);(iterate 7 refine aF ?_);exact trivial)) rfl⟩
  ·have He:0<τ.marks.length:=by
    apply Nat.pos_of_ne_zero
    intro h
    exact TN (.inr ⟨by omega,bk h⟩)
   have Y4:¬(τ.marks.length:Int)=0:=by omega
   have XU:decide ((j:Int)≠ -1)=true:=by simp
   have BY:=Gk n τ mY j hj hf He (by omega)
   simp only[ie,ij] at BY
   (refine K6 ?_;refine iY ?_;refine CJ ?_;refine zm ?_;refine CJ ?_;refine a_.neq rfl rfl rfl rfl rfl ?_;refine CJ ?_;refine zm ?_;refine SY ?_;refine a_.c_ 96 0 0 rfl rfl rfl rfl ?_;refine zl ?_;refine a_.c_ 94 4 4 rfl rfl rfl rfl ?_;refine zl ?_;refine zb ?_;refine zl ?_;refine a_.hY rfl rfl rfl rfl ?_;refine DF ?_;refine CJ ?_;refine a_.jL rfl rfl rfl rfl rfl rfl ?_;refine a_.F1 rfl rfl (by assumption) rfl rfl rfl rfl ?_;refine lK ?_;refine zk ?_;refine qw ?_;refine a_.neq rfl rfl rfl rfl rfl ?_;refine lK ?_;refine AW.oQ rfl rfl ?_;refine wP ?_;refine zm ?_;(with_reducible apply a_.kI (hf:=BY));(with_reducible assumption);(iterate 3 exact rfl);exact aq;exact ak;(intro x_;exact rfl);exact rfl;exact al;(intro x_;exact al);(intro x_;exact rfl);exact rfl;(intro x_ rL);refine k9 ?_;refine Gg ?_;refine uf ?_;refine AW.mS 19 ?_)
   refine Stop.go ?_
   obtain⟨v,l,to⟩:=x_
   obtain⟨Ew,Wa⟩:=rL
   simp only at Ew Wa ⊢
   obtain⟨RO,ht,_⟩:=Wa.lvl mY He
   obtain⟨k0,q1,q2,q3,_⟩:=id hτ.si.low
   obtain⟨p0,rest0,ep,pl1,_,_,pnd,pl2,_⟩:=Wa.back mY ⟨ht,‹_›⟩
   have GC:=Wa.lits mY
   obtain⟨u,hu⟩:∃u,u=gw ({τ with hc:=e_ τ.hc τ.nc v,cl:=e_ τ.cl τ.nc l}:SR) to.toNat:=⟨_,rfl⟩
   have R_:=Ei n ({τ with hc:=e_ τ.hc τ.nc v,cl:=e_ τ.cl τ.nc l}:SR) to.toNat ht sA EA mY.iU (fun m hm=>by have:=mY.oW m hm;have:=mY.hd;show 0≤m∧m.toNat≤(τ.ll 0).length;omega) (by show 0≤τ.low∧τ.low≤1000000;omega)
   rw[← hu,Int.toNat_of_nonneg RO] at R_
   have NR:u.cl u.nc=l:=by rw[hu];exact e7 _ _ _
   have YW:u.hc u.nc=v:=by rw[hu];exact e7 _ _ _
   have XP:u.nc=τ.nc:=by rw[hu];rfl
   have YO:(u.ll 0).length≤1000000:=by
    have e:u.ll 0=(τ.ll 0).take (τ.marks[to.toNat]).toNat:=by rw[hu];exact(nB mY ht).1
    rw[e,cO];omega
   have hum:u.marks.length≤1000000:=by
    have e:u.marks=τ.marks.take to.toNat:=by rw[hu];rfl
    rw[e,cO];omega
   have X9:l.length≤1000000:=by
    have:=kO (n:=2*n+2) (l:=l.map eX) (by
     unfold List.Nodup
     rw[dC]
     exact pnd.imp_of_mem fun {a b} ha hb sS e=>sS (iw (GC a ha) (GC b hb) (by rw[e]))) fun v hv=>by
     obtain⟨a,ha,rfl⟩:=bx.1 hv
     have:=gT (GC a ha)
     omega
    simp only[a6] at this
    omega
   have has:=Iy n u sA (by rw[NR,ep];simp) (by rw[NR];exact X9) (by rw[NR];exact GC) (by rw[NR];exact pnd) (by rw[hu];show(zeroV τ.value _).length=_;rw[rX];exact EA) (by rw[hu];exact mY.lvl) (by rw[hu];exact mY.pH) YO hum (by rw[hu];show τ.proof.length≤_;omega) (by rw[XP];omega) (by rw[hu];exact mY.nw) (fun x hx=>by rw[hu];have:=mY.IF hx;show(τ.wl _).length≤_;omega)
   rw[YW] at has
   simp only[ie,ij] at R_ has
   (refine wP ?_;refine zm ?_;refine zX (R_) ?_;refine k9 ?_;refine ko ?_;refine Fo ?_;(with_reducible apply a_.kI (hf:=has));(with_reducible assumption);(iterate 3 exact rfl);exact aq;exact ak;(intro x_;exact rfl);exact rfl;exact al;(intro x_;exact al);(intro x_;exact rfl);exact rfl;(intro x_ rL);refine k9 ?_;refine zd ?_;refine AW.mS 21 ?_)
   refine Stop.go ?_
   obtain⟨PZ,hLV,hmo,TV,jg⟩:=hτ.sB Wa He hj hf hk aJ (by rw[← hu];exact rL)
   by_cases yh:fuel≤met+1
   ·have Yn:(fuel:Int)≤(met:Int)+1:=by omega
    obtain⟨s4,PW,f1,f2,f3⟩:=y3 n x_ PZ.inv PZ.low
    have mq:=PZ.YJ (t:=s4) jg Xj aJ f1 (by rw[f3];exact TV) (by rw[f2];exact hmo)
    simp only[ie,ij] at PW
    (refine qE ?_;refine zj ?_;refine qJ ?_;(iterate 2 refine zm ?_);refine a_.geq rfl rfl rfl rfl rfl ?_;refine jD ?_;refine AW.exit ?_;(iterate 2 refine oc rfl ?_);refine kB ?_;refine iC ?_;refine iB ?_;refine wP ?_;refine zX (PW) ?_;refine k9 ?_;refine ko ?_;refine ku ?_;refine oJ ?_)
    (apply hX (((s4,0):SR×Int)) (mq);((exact gm.one (.tmp rfl rfl)));((exact qA));((exact Q2));exact rfl)
   ·have Yn:¬(fuel:Int)≤(met:Int)+1:=by omega
    have Wi:(fuel - (met+1))*(A.length+n+2)+(A.length - x_.marks.length)+(n - (x_.ll 0).length)<(fuel - met)*(A.length+n+2)+(A.length - σ.marks.length)+(n - (σ.ll 0).length):=by
     obtain⟨d,hd⟩:∃d,fuel - met=d+1:=⟨fuel - met - 1,by omega⟩
     rw[show fuel - (met+1)=d by omega,hd,Nat.add_mul,Nat.one_mul]
     omega
    (refine qE ?_;refine zj ?_;refine qJ ?_;(iterate 2 refine zm ?_);refine a_.geq rfl rfl rfl rfl rfl ?_;refine EM ?_;(iterate 2 refine ix ?_);refine iB ?_)
    exact⟨(x_,met+1),⟨PZ,hLV,hmo,TV,by omega,jg⟩,Wi,fe rfl (by(refine aD ?_;refine aC ?_;refine aG ?_;refine aD ?_;refine aC ?_;exact trivial)) (by(refine⟨.box _ rfl ?_,?_⟩;(iterate 3 refine aE ?_);refine aD ?_;refine aE ?_;refine aD ?_;(iterate 2 refine aE ?_);(iterate 3 refine aD ?_);refine aE ?_;refine aD ?_;(iterate 2 refine aG ?_);exact trivial;(iterate 3 refine aH ?_);(iterate 7 refine aF ?_);exact trivial)) rfl⟩
end Go.Ab
/- The solver:values,core and proof told,walked. -/
namespace Go.Ab
open Go Go.Proofs
open Nat (reduceAdd reduceSub)
set_option maxRecDepth 20000
set_option maxHeartbeats 8000000
attribute [local irreducible] gG AW a_ gr fz AR fH fv fM gk lk me eX
theorem L4 (s:SR) (v:Nat) (hv:0<v):oP Tryz.prog 29 11 (ie s) [.ptr 0 0,eU v] (ie s) (fq (decide (0<s.model.getD v 0))):=by
 simp only[ie,ij]
 by_cases h:v<s.model.length
 ·have hl:(v:Int).toNat<s.model.length:=by omega
  have hvi:(v:Int)<(s.model.length:Int):=by omega
  have e:s.model.getD v 0=s.model[(v:Int).toNat]:=fJ hl
  rw[e]
  refine oP.enter (n:=26) Tryz.func29 rfl rfl rfl rfl rfl (by decide) rfl rfl fun g fp fl=>?_;refine s9 ?_
  (refine WN ?_;refine Vd ?_;refine a_.c_ 96 8 13 rfl rfl rfl rfl ?_;refine zt ?_;refine zb ?_;refine uW ?_;refine aA ?_;refine zt ?_;refine zr ?_;refine zt ?_;refine a_.gtr rfl rfl rfl rfl rfl ?_;refine zT ?_;refine ku ?_)
  (apply iJ;((exact gm.one (.tmp rfl rfl)));((refine E7 ?_;exact vM));((exact LL));exact rfl)
 ·have hvi:¬(v:Int)<(s.model.length:Int):=by omega
  have e:s.model.getD v 0=0:=by rw[c6,cH aJ];rfl
  rw[e]
  refine oP.enter (n:=26) Tryz.func29 rfl rfl rfl rfl rfl (by decide) rfl rfl fun g fp fl=>?_;refine s9 ?_
  (refine WN ?_;(iterate 8 refine a_.mG rfl rfl rfl rfl rfl rfl (by with_reducible assumption) ?_);refine zF ?_;refine ku ?_)
  (apply iJ;((exact gm.one (.tmp rfl rfl)));((refine E7 ?_;exact vM));((exact LL));exact rfl)
theorem O9 (s:SR) (hl:s.core.length≤1000000):oP Tryz.prog 30 11 (ie s) [.ptr 0 0] (ie s) (.pv (ke s.core)):=by
 have hc:=vC s.core hl
 simp only[ie,ij]
 refine oP.enter (n:=8) Tryz.func30 rfl rfl rfl rfl rfl (by decide) rfl rfl fun g fp fl=>?_;refine s9 ?_
 (refine zq ?_;refine qJ ?_;refine pJ ?_;refine a_.c_ 96 9 14 rfl rfl rfl rfl ?_;refine zb ?_;refine zP (hc) ?_;refine ku ?_)
 (apply iJ;((exact gm.one (.tmp rfl rfl)));((refine aG ?_;exact vM));((exact LL));exact rfl)
theorem F5 (l:List Int) (hl:l.length≤1000000):Fn Tryz.prog 67 [.agg [.pv (.lit (.int .i64 1)),.pv (ke l),.pv (.lit (.int .i64 0))]] (.agg [.pv (.lit (.int .i64 1)),.pv (ke l),.pv (.lit (.int .i64 0))]):=by
 have hc:=vC l hl
 refine Fn.enter (n:=8) Tryz.func67 rfl rfl rfl rfl rfl (by decide) fun g fp fl=>?_;refine aB ?_
 (refine zq ?_;refine a_.box rfl rfl rfl rfl ?_;refine Q0 ?_;refine a_.rO rfl rfl rfl rfl ?_;refine Q0 ?_;refine ko ?_;refine uS ?_;refine zP (hc) ?_;refine a_.c_ 44 1 1 rfl rfl rfl rfl ?_;(with_reducible apply a_.gy);(iterate 5 exact rfl);exact ag;(iterate 3 exact rfl);(with_reducible assumption);refine Q0 ?_;refine ko ?_;refine zL ?_;refine Q0 ?_;refine zB ?_;refine Q0 ?_;refine zd ?_;refine AW.ret ?_)
 (apply eY;(exact gm.one (.cell rfl rfl rfl rfl));(refine Le.lS ?_;refine hO.cons ?_ ?_;(with_reducible exact Le.pv _);refine hO.cons ?_ ?_;(with_reducible exact Le.pv _);refine hO.cons ?_ ?_;(with_reducible exact Le.pv _);exact hO.nil))
abbrev JI (s:SR):List AV:=[.own 1 3 1 (s.value.map encI),.own 2 3 1 (s.level.map encI),.own 3 3 1 (s.reason.map encI),.pv (.lit (s.hl 0)),.own 5 3 1 (s.marks.map encI),eU s.low,.own 6 25 1 (gG s.nc s.hc),.own 8 25 1 (gG s.nw s.hw),eU s.head,eU s.added,fq s.broken,.pv (.slice 3 (s.proof.map qv)),eU 0,.pv (ke s.model),.pv (ke s.core)]
abbrev Sv (s:SR):List (Nat×Option Ob):=[(0,some (.box (JI s))),(1,some .row),(2,some .row),(3,some .row),(4,some (.fb 3 (kK s.hl s.ll))),(5,some .row),(6,some .row),(7,some (.fb 3 (kK s.hc s.cl))),(8,some .row),(9,some (.fb 3 (kK s.hw s.wl))),(10,some .row)]
theorem L0 (s:SR) (hp:s.proof.length≤100000) (hl:∀l∈s.proof,l.length≤1000000):oP Tryz.prog 31 11 (ie s) [.ptr 0 0] (Sv s) (.pv (.slice 3 (s.proof.map qv))):=by
 simp only[ie,ij,Sv,JI]
 refine oP.enter (n:=24) Tryz.func31 rfl rfl rfl rfl rfl (by decide) rfl rfl fun g fp fl=>?_;refine s9 ?_
 refine AW.Su 10 rfl ?_
 refine aB ?_
 (refine zq ?_;refine qJ ?_;refine a_.assign rfl rfl rfl ?_;refine Q0 ?_;refine ko ?_;refine vt ?_;refine pJ ?_;refine a_.c_ 96 6 11 rfl rfl rfl rfl ?_;refine zb ?_;refine nq ?_)
 (refine Q0 ?_;apply AW.gJ [11,10,3,2,1000] [0,1,2,3,4,5,6,7,8,9] (fun k:Nat=>([(4,.own 11 44 3 ((s.proof.take k).map qv)),(12,eU k)]:List (Nat×AV))) (fun k:Nat=>([(11,some .row)]:List (Nat×Option Ob))) (fun k:Nat=>k≤s.proof.length) (fun k:Nat=>s.proof.length - k) (0);(conv=>lhs;simp only[Nf.ot,Nf.all,df,reduceAdd,reduceSub]);(all_goals skip))
 ·exact bm _
 ·exact fe rfl (by(refine⟨.jN _ _ _ rfl rfl,?_⟩;(iterate 2 refine aD ?_);refine aG ?_;refine aC ?_;refine aD ?_;refine aC ?_;exact trivial)) (by(refine⟨.iW rfl,?_⟩;refine⟨.box _ rfl ?_,?_⟩;(iterate 3 refine aE ?_);refine aD ?_;refine aE ?_;refine aD ?_;(iterate 2 refine aE ?_);(iterate 3 refine aD ?_);refine aG ?_;refine aD ?_;(iterate 2 refine aG ?_);exact trivial;(iterate 3 refine aF ?_);refine aH ?_;(iterate 2 refine aF ?_);refine aH ?_;refine aF ?_;refine aH ?_;exact trivial)) rfl
 rintro k hk
 by_cases fy:k<s.proof.length
 ·have hc:=F5 s.proof[k] (hl _ (cY fy))
  have FL:=dJ k s.proof
  have e:((s.proof.take (k+1)).map qv)=(s.proof.take k).map qv++ [qv s.proof[k]]:=by
   rw[dk fy,cR];rfl
  (refine zq ?_;refine zs ?_;refine kW ?_;refine Q6 ?_;refine kJ ?_;refine aA ?_;refine a_.l5 rfl rfl rfl rfl ?_;refine Q0 ?_;refine a_.rO rfl rfl rfl rfl ?_;refine Q0 ?_;refine zB ?_;refine Q0 ?_;refine BG ?_;refine a_.fX rfl rfl rfl ?_;refine a_.iu rfl rfl rfl ?_;refine zL ?_;refine Q0 ?_;(with_reducible apply a_.Tb (hf:=hc));exact rfl;exact rfl;exact aj;exact rfl;refine a_.AJ rfl rfl rfl rfl rfl rfl rfl rfl rfl rfl ?_;refine Q0 ?_;(with_reducible apply a_.fD);exact rfl;exact ah;(iterate 9 exact rfl);exact aa;refine Q0 ?_;refine vG ?_;refine td ?_)
  exact⟨k+1,by omega,by omega,fe rfl (by(refine⟨.ff (by first|rfl|(rw[e])) rfl,?_⟩;refine⟨.fm (by first|rfl|(rw[e])),?_⟩;refine⟨.fm (by first|rfl|(rw[e])),?_⟩;refine⟨.iz (by first|rfl|(rw[e])),?_⟩;refine aC ?_;refine⟨.fm (by first|rfl|(rw[e])),?_⟩;refine aC ?_;exact trivial)) (by(refine aF ?_;refine⟨.box _ rfl ?_,?_⟩;refine⟨.ff (by first|rfl|(rw[e])) rfl,?_⟩;refine⟨.ff (by first|rfl|(rw[e])) rfl,?_⟩;refine⟨.ff (by first|rfl|(rw[e])) rfl,?_⟩;refine⟨.fm (by first|rfl|(rw[e])),?_⟩;refine⟨.ff (by first|rfl|(rw[e])) rfl,?_⟩;refine⟨.fm (by first|rfl|(rw[e])),?_⟩;refine⟨.ff (by first|rfl|(rw[e])) rfl,?_⟩;refine⟨.ff (by first|rfl|(rw[e])) rfl,?_⟩;refine⟨.fm (by first|rfl|(rw[e])),?_⟩;refine⟨.fm (by first|rfl|(rw[e])),?_⟩;refine⟨.fm (by first|rfl|(rw[e])),?_⟩;refine⟨.iz (by first|rfl|(rw[e])),?_⟩;refine⟨.fm (by first|rfl|(rw[e])),?_⟩;refine⟨.iz (by first|rfl|(rw[e])),?_⟩;refine⟨.iz (by first|rfl|(rw[e])),?_⟩;exact trivial;(iterate 3 refine aF ?_);refine⟨.fb rfl (by first|rfl|(rw[e])),?_⟩;(iterate 2 refine aF ?_);refine⟨.fb rfl (by first|rfl|(rw[e])),?_⟩;refine aF ?_;refine⟨.fb rfl (by first|rfl|(rw[e])),?_⟩;exact trivial)) rfl⟩
 ·obtain rfl:k=s.proof.length:=by omega
  rw[c8]
  (refine Cp ?_;refine kJ ?_;refine Fk ?_)
  (apply iJ;((exact gm.one (.tmp rfl rfl)));((refine⟨.B3 rfl (by rfl),?_⟩;exact vM));((refine⟨.box _ rfl ?_,?_⟩;(iterate 3 refine aE ?_);refine E7 ?_;refine aE ?_;refine E7 ?_;(iterate 2 refine aE ?_);(iterate 3 refine aD ?_);refine aG ?_;refine E7 ?_;(iterate 2 refine aG ?_);exact trivial;refine Q72 ?_;refine⟨.iW rfl,?_⟩;exact trivial));exact rfl)
end Go.Ab
/- A formula solved:a new solver,its clauses,the search,walked. -/
namespace Go.Ab
open Go Go.Proofs
open Nat (reduceAdd reduceSub)
set_option maxRecDepth 20000
set_option maxHeartbeats 8000000
section
variable {P:Program} {g:eZ} {δ:DS} {Q:Exit→DS→Prop}
theorem AW.Fm (m:Nat) {c:Code} (h:Nat.ble δ.nx m=true) (hK:AW P g c Q {δ with nx:=m}):AW P g c Q δ:=fun κ a w r=>
 hK κ a w {n:=r.n,dfr:=r.dfr,env:=r.env,obj:=r.obj,inj:=r.inj,lo:=r.lo,nx:=fun i hi=>Nat.lt_of_lt_of_le (r.nx i hi) (by simpa using h),wt:=r.wt,below:=r.below,hB:=r.hB,N0:=r.N0,fr:=r.fr,kZ:=r.kZ}
theorem AW.Qb (i j:Nat) {c:Code} (jk:g.wt=none) (hi:aY i δ.nx=true) (hj:aY j δ.nx=true) (hK:AW P g c Q (δ.sw i j)):AW P g c Q δ:=AW.fe (o6.sw i j jk hi hj (fun κ a w r=>⟨κ,r⟩)) hK
end
theorem IW (h:Nat→Value):gG 0 h=[]:=rfl
theorem LQ (n:Nat):bZ n [PV.lit (.slice none 0 0)]=gG n (fun _=> .slice none 0 0):=by
 unfold gG
 symm
 rw[List.eq_replicate_iff]
 refine⟨by simp,fun x hx=>?_⟩
 obtain⟨_,_,rfl⟩:=bx.1 hx
 rfl
def qj (n:Nat) (m:List Int):List Bool:=(bc n).map fun i=>decide (0<m.getD (i+1) 0)
def fK (n:Nat) (F:List (List Int)) (A:List Int) (q:Int×List Bool×List Int×List (List Int)):Prop:=∃t,lC n F A 10000 t q.1∧q.2.1=qj n t.model∧q.2.2.1=t.core∧q.2.2.2=t.proof
attribute [local irreducible] gG AW a_ gr fz AR fH fv fM gk lk me BN eX
theorem El {n:Nat} (hn:n≤20000) {l:List Int} (jg:l.Nodup) (hl:∀x∈l,Lit n x):l.length≤1000000:=by
 have:=kO (n:=2*n+2) (l:=l.map eX) (by
  unfold List.Nodup
  rw[dC]
  exact jg.imp_of_mem fun {a b} ha hb sS e=>sS (iw (hl a ha) (hl b hb) (by rw[e]))) fun v hv=>by
  obtain⟨a,ha,rfl⟩:=bx.1 hv
  have:=gT (hl a ha)
  omega
 simp only[a6] at this
 omega
theorem lC.FT {n:Nat} {F:List (List Int)} {A:List Int} {fuel:Nat} {t:SR} {k:Int} (h:lC n F A fuel t k):t.core.length≤1000000:=by
 rcases h.res with ⟨_,_,_,e,_⟩|⟨_,_,_,_,_,e1,e2⟩|⟨_,_,e,_⟩
 ·rw[e];simp
 ·exact El h.hn e1 e2
 ·rw[e];simp
theorem lC.Ux {n:Nat} {F:List (List Int)} {A:List Int} {fuel:Nat} {t:SR} {k:Int} (h:lC n F A fuel t k):∀l∈t.proof,l.length≤1000000:=fun l hl=>
 El h.hn (h.nd l hl) (h.lits l (bX.2 (.inr hl)))
theorem uQ (n:Nat) (F:List (List Int)) (A:List Int) (hn:n≤20000) (hF:F.length≤50000) (hc:∀c∈F,c.length≤1000000∧∀x∈c,Lit n x) (hA:∀x∈A,Lit n x) (hAl:A.length≤50000):vo Tryz.prog 8 0 [] [KA (n:Nat) F,.pv (ke A)] (fun q:Int×List Bool×List Int×List (List Int)=>fK n F A q) (fun _=>[]) (fun q=> .gY [eU q.1,.pv (qV q.2.1),.pv (ke q.2.2.1),.pv (.slice 3 (q.2.2.2.map qv))]):=by
 have ux:¬(n:Int)<0:=by omega
 have UZ:¬(20000:Int)<(n:Int):=by omega
 have hz:bZ ((n:Int)+1).toNat [PV.lit (.int .i64 0)]=(mw n).value.map encI:=by
  rw[show((n:Int)+1).toNat=n+1 by omega]
  show _=(bZ (n+1) 0).map encI
  rw[List.map_replicate];rfl
 have hw:bZ (2*(n:Int)+2).toNat [PV.lit (.slice none 0 0)]=gG (mw n).nw (mw n).hw:=by
  rw[show(2*(n:Int)+2).toNat=2*n+2 by omega]
  exact LQ _
 have Cm:gG (mw n).nc (mw n).hc=[]:=IW _
 refine vo.R7 (n:=54) Tryz.func8 rfl rfl rfl rfl rfl (by decide) rfl (fun _=>rfl) fun g fp fl=>?_;refine s9 ?_
 (refine zq ?_;refine a_.box rfl rfl rfl rfl ?_;refine Q0 ?_;(iterate 4 refine za ?_);refine zd ?_;refine kJ ?_;refine vA ?_;(with_reducible apply a_.inline (hf:=Tryz.func26));(with_reducible assumption);(iterate 10 exact rfl);intro g_ fp fl;refine Q0 ?_;refine CB ?_;refine zs ?_;refine zm ?_;refine rA ?_;refine a_.gtr rfl rfl rfl rfl rfl ?_;refine Ku ?_;refine qw ?_;refine a_.mul rfl rfl rfl rfl rfl aJ ?_;refine zj ?_;refine PQ ?_;refine Q0 ?_;refine a_.oZ 96 [7] rfl rfl rfl rfl rfl rfl rfl rfl rfl ?_;refine Q0 ?_;refine a_.box rfl rfl rfl rfl ?_;refine Q0 ?_;refine a_.p7 rfl rfl rfl ?_;refine kW ?_;refine AW.gg [0,1,2,4,5,7,8] [13] rfl (by assumption) aI aI rfl ?_;show a_ .held _ _ _ [_,_,_,_,_,_,_] _ _;refine Fo ?_;refine zj ?_;refine zm ?_;refine zj ?_;refine zm ?_;refine zj ?_;refine Q3 ?_;intro k_ iE;refine Q0 ?_;apply AR.cut [8,7,5,4,2,1,0,3,6,9];intro kv;apply AR.cut [8,7,5,4,2,1,0,3,9];intro ly;apply AR.cut [8,7,5,4,2,1,0,6,9];intro lu;apply AR.cut [8,7,5,4,2,1,0,3,6];intro lF;(refine AR.pS (i:=3) (j:=6) (m:=9) rfl aI rfl rfl rfl ?_ ?_ ?_<;>intro g_ b_ fU);refine wQ ?_;(refine AR.gh (i:=6) (j:=9) rfl aI rfl rfl ?_ ?_<;>intro g_ b_ fU);refine wQ ?_;refine aB ?_;exact Jh;refine wQ ?_;refine aB ?_;exact ss;refine wQ ?_;(refine AR.gh (i:=3) (j:=9) rfl aI rfl rfl ?_ ?_<;>intro g_ b_ fU);refine wQ ?_;refine aB ?_;refine Ng ?_;refine AR.meet lF aI (fun g_=>fe rfl ?_ ?_ rfl);(iterate 34 refine aC ?_);exact trivial;(iterate 2 refine aF ?_);exact Lu;refine wQ ?_;refine aB ?_;exact BV;refine wQ ?_;(refine AR.gh (i:=3) (j:=6) rfl aI rfl rfl ?_ ?_<;>intro g_ b_ fU);refine wQ ?_;refine aB ?_;refine Ng ?_;refine AR.meet ly aI (fun g_=>fe rfl ?_ ?_ rfl);(iterate 34 refine aC ?_);exact trivial;(iterate 2 refine aF ?_);exact Lu;refine wQ ?_;refine aB ?_;refine Ng ?_;refine AR.meet lu aI (fun g_=>fe rfl ?_ ?_ rfl);(iterate 34 refine aC ?_);exact trivial;(iterate 2 refine aF ?_);exact Lu;refine AR.fA (i:=9) rfl aI rfl ?_;intro g_ b_ fU;refine wQ ?_;refine aB ?_;exact pE;refine AR.fA (i:=3) rfl aI rfl ?_;intro g_ b_ fU;refine wQ ?_;refine aB ?_;refine AR.sw 4 5 (by assumption) aI aI ?_;refine H7 ?_;refine Ng ?_;refine Qy ?_;(iterate 3 refine aF ?_);exact Lu;refine AR.fA (i:=6) rfl aI rfl ?_;intro g_ b_ fU;refine wQ ?_;refine aB ?_;refine AR.sw 4 5 (by assumption) aI aI ?_;refine H7 ?_;refine Qy ?_;(iterate 3 refine aF ?_);exact Lu;refine AR.free 10 aI rfl rfl rfl (fS.build 94 [0,1,2,5] rfl rfl rfl rfl rfl rfl rfl rfl) ?_;refine aB ?_;refine AR.iP [11,12] aI aI aI aI ?_;intro g_ b_;show a_ .held _ _ _ [_,_] _ _;refine a_.fw rfl rfl rfl ?_;refine a_.c_ 96 0 0 rfl rfl rfl rfl ?_;refine Q3 ?_;intro k_ iE;refine Q0 ?_;refine wE ?_;intro g_ b_ eT;(with_reducible apply a_.yd);(iterate 3 exact rfl);(repeat' first|exact wN.nil|apply wN.take|apply wN.skip);(iterate 5 exact rfl);(with_reducible assumption);refine s5 ?_;refine EX ?_;refine a_.p7 rfl rfl rfl ?_;refine zd ?_;refine AW.ret ?_;refine Bk rfl rfl ?_;refine Q0 ?_;refine a_.p7 rfl rfl rfl ?_;refine kW ?_;refine AW.mS 2 ?_)
 refine Stop.go ?_
 refine AW.BD 3 ?_
 refine AW.BD 3 ?_
 refine AW.BD 3 ?_
 refine AW.Fm 20 (by rfl) ?_
 refine AW.Qb 0 11 (by assumption) rfl rfl ?_
 refine AW.Qb 2 0 (by assumption) rfl rfl ?_
 refine AW.Qb 1 8 (by assumption) rfl rfl ?_
 refine AW.Qb 3 1 (by assumption) rfl rfl ?_
 refine AW.Qb 4 2 (by assumption) rfl rfl ?_
 refine AW.Qb 3 4 (by assumption) rfl rfl ?_
 refine AW.Qb 5 3 (by assumption) rfl rfl ?_
 refine AW.Qb 6 9 (by assumption) rfl rfl ?_
 refine H7 ?_
 refine AW.fe (δ':=⟨54,[(8,.ptr 0 0),(2,.ptr 11 0),(1,.pv (ke A)),(1000,.agg [])],ie (mw n)++ [(11,some (.box [eU n,.pv (j3 F)]))],20⟩) ?_ ?_
 ·exact fe rfl (by(refine aC ?_;refine aC ?_;refine⟨.iz (by first|rfl|exact hz|exact hw|exact Cm),?_⟩;refine aC ?_;exact trivial)) (by(refine⟨.box _ rfl ?_,?_⟩;(iterate 3 refine⟨.ff (by first|rfl|exact hz|exact hw|exact Cm) rfl,?_⟩);refine⟨.fm (by first|rfl|exact hz|exact hw|exact Cm),?_⟩;refine⟨.jN _ _ _ rfl rfl,?_⟩;refine⟨.fm (by first|rfl|exact hz|exact hw|exact Cm),?_⟩;refine⟨.Pm (by first|rfl|exact hz|exact hw|exact Cm) rfl rfl,?_⟩;refine⟨.ff (by first|rfl|exact hz|exact hw|exact Cm) rfl,?_⟩;(iterate 3 refine⟨.fm (by first|rfl|exact hz|exact hw|exact Cm),?_⟩);refine⟨.jN _ _ _ rfl rfl,?_⟩;refine⟨.fm (by first|rfl|exact hz|exact hw|exact Cm),?_⟩;(iterate 2 refine⟨.Ml (by first|rfl|exact hz|exact hw|exact Cm),?_⟩);exact trivial;(iterate 3 refine aF ?_);refine⟨.fb rfl (by first|rfl|exact hz|exact hw|exact Cm),?_⟩;(iterate 2 refine⟨.iW rfl,?_⟩);refine⟨.fb rfl (by first|rfl|exact hz|exact hw|exact Cm),?_⟩;refine aF ?_;refine⟨.fb rfl (by first|rfl|exact hz|exact hw|exact Cm),?_⟩;refine⟨.iW rfl,?_⟩;refine⟨.box _ rfl ?_,?_⟩;refine⟨.fm (by first|rfl|exact hz|exact hw|exact Cm),?_⟩;refine⟨.iz (by first|rfl|exact hz|exact hw|exact Cm),?_⟩;(iterate 2 exact trivial))) rfl
 simp only[ie,ij,List.cons_append,List.nil_append]
 (refine EX ?_;refine a_.WK rfl rfl rfl rfl rfl rfl rfl ?_;refine nY ?_;refine zo ?_;refine kJ ?_;refine wX ?_)
 (refine Q0 ?_;apply AW.gJ [8,2,1,1000] [1,2,3,5,6,8,10,11] (fun q:SR×Nat=>([(9,eU (q.2:Nat))]:List (Nat×AV))) (fun q:SR×Nat=>([(0,some (.box [.own 1 3 1 ((q.1.value).map encI),.own 2 3 1 ((q.1.level).map encI),.own 3 3 1 ((q.1.reason).map encI),.pv (.lit (q.1.hl 0)),.own 5 3 1 ((q.1.marks).map encI),eU (q.1.low),.own 6 25 1 (gG q.1.nc q.1.hc),.own 8 25 1 (gG q.1.nw q.1.hw),eU (q.1.head),eU (q.1.added),fq (q.1.broken),.own 10 44 3 ((q.1.proof).map qv),eU 0,.pv (ke (q.1.model)),.pv (ke (q.1.core))])),(4,some (.fb 3 (kK q.1.hl q.1.ll))),(7,some (.fb 3 (kK q.1.hc q.1.cl))),(9,some (.fb 3 (kK q.1.hw q.1.wl)))]:List (Nat×Option Ob))) (fun q:SR×Nat=>(mO n (F.take q.2) q.2 q.1∧q.2≤F.length)) (fun q:SR×Nat=>F.length - q.2) ((mw n,0));(conv=>lhs;simp only[Nf.ot,Nf.all,df,reduceAdd,reduceSub]);(all_goals skip))
 ·exact⟨EI hn,bm _⟩
 ·exact fe rfl (by(refine aD ?_;(iterate 2 refine aC ?_);refine aG ?_;refine aC ?_;exact trivial)) (by(refine⟨.box _ rfl ?_,?_⟩;(iterate 3 refine aE ?_);refine aD ?_;refine aE ?_;refine aD ?_;(iterate 2 refine aE ?_);(iterate 3 refine aD ?_);refine aE ?_;refine aD ?_;(iterate 2 refine aG ?_);exact trivial;(iterate 3 refine aH ?_);(iterate 7 refine aF ?_);refine⟨.box _ rfl ?_,?_⟩;refine aD ?_;refine aG ?_;(iterate 2 exact trivial))) rfl
 rintro⟨σ,i⟩ ⟨hσ,hi⟩
 simp only at hσ hi
 by_cases fy:i<F.length
 ·obtain⟨FB,S_⟩:=hc _ (cY fy)
  have Xm:=BW n (F.take i) i σ hσ aJ F[i] S_ FB
  rw[← dk fy] at Xm
  simp only[ie,ij] at Xm
  (refine zo ?_;refine qw ?_;refine KG ?_;refine Q6 ?_;refine wP ?_;refine vm ?_;refine zm ?_;refine aA ?_;refine zr ?_;(with_reducible apply a_.kI (hf:=Xm));(with_reducible assumption);(iterate 3 exact rfl);exact aq;exact ak;(intro x_;exact rfl);exact rfl;exact al;(intro x_;exact al);(intro x_;exact rfl);exact rfl;(intro x_ rL);refine k9 ?_;refine a_.not rfl rfl rfl ?_;refine Ci ?_;refine uH ?_;refine Q0 ?_;refine zm ?_;refine zj ?_;refine lK ?_)
  exact⟨(x_,i+1),⟨rL,fy⟩,by show F.length - (i+1)<F.length - i;omega,fe rfl (by(refine aD ?_;(iterate 2 refine aC ?_);refine aG ?_;refine aC ?_;exact trivial)) (by(refine⟨.box _ rfl ?_,?_⟩;(iterate 3 refine aE ?_);refine aD ?_;refine aE ?_;refine aD ?_;(iterate 2 refine aE ?_);(iterate 3 refine aD ?_);refine aE ?_;refine aD ?_;(iterate 2 refine aG ?_);exact trivial;(iterate 3 refine aH ?_);(iterate 7 refine aF ?_);refine⟨.box _ rfl ?_,?_⟩;refine aD ?_;refine aG ?_;(iterate 2 exact trivial))) rfl⟩
 ·obtain rfl:i=F.length:=by omega
  rw[c8] at hσ
  have W8:=L9 n F F.length σ hσ aJ A hA hAl 10000 aJ (by omega)
  rw[show((10000:Nat):Int)=10000 from rfl] at W8
  simp only[ie,ij] at W8
  (refine zo ?_;refine qw ?_;refine KG ?_;refine tW ?_;refine wP ?_;refine zm ?_;(with_reducible apply a_.kI (hf:=W8));(with_reducible assumption);(iterate 3 exact rfl);exact aq;exact ak;(intro x_;exact rfl);exact rfl;exact al;(intro x_;exact al);(intro x_;exact rfl);exact rfl;(intro x_ rL);refine k9 ?_;refine lK ?_;refine AW.mS 10 ?_)
  refine Stop.go ?_
  obtain⟨t,k⟩:=x_
  have ht:=rL
  simp only at ht ⊢
  have KU:=ht.plen2
  have qf:=ht.lits
  have Jq:∀m,(qj n m).length=n:=fun m=>by simp [qj]
  (refine kJ ?_;refine vt ?_;refine wX ?_)
  (refine Q0 ?_;apply AW.gJ [10,8,2,1000] [0,1,2,3,4,5,6,7,8,9,10,11] (fun v:Nat=>([(11,.own 12 4 1 (((qj n t.model).take v).map kX)),(12,eU ((v:Int)+1))]:List (Nat×AV))) (fun v:Nat=>([(12,some .row)]:List (Nat×Option Ob))) (fun v:Nat=>v≤n) (fun v:Nat=>n - v) (0);(conv=>lhs;simp only[Nf.ot,Nf.all,df,reduceAdd,reduceSub]);(all_goals skip))
  ·exact bm _
  ·exact fe rfl (by(refine⟨.jN _ _ _ rfl rfl,?_⟩;(iterate 2 refine aD ?_);(iterate 3 refine aC ?_);exact trivial)) (by(refine⟨.iW rfl,?_⟩;refine⟨.box _ rfl ?_,?_⟩;(iterate 3 refine aE ?_);refine aD ?_;refine aE ?_;refine aD ?_;(iterate 2 refine aE ?_);(iterate 3 refine aD ?_);refine aE ?_;refine aD ?_;(iterate 2 refine aG ?_);exact trivial;(iterate 3 refine aF ?_);refine aH ?_;(iterate 2 refine aF ?_);refine aH ?_;refine aF ?_;refine aH ?_;refine aF ?_;refine⟨.box _ rfl ?_,?_⟩;refine aD ?_;refine aG ?_;(iterate 2 exact trivial))) rfl
  rintro v hv
  by_cases tf:v<n
  ·have Zl:=L4 t (v+1) (by omega)
   have e:((qj n t.model).take (v+1)).map kX=((qj n t.model).take v).map kX++ [kX (decide (0<t.model.getD (v+1) 0))]:=by
    rw[dk (by rw[Jq];exact tf),cR]
    simp [qj]
   rw[show((v+1:Nat):Int)=(v:Int)+1 from rfl] at Zl
   have tA:=dJ v (qj n t.model)
   simp only[ie,ij] at Zl
   (refine sd ?_;refine vA ?_;refine a_.leq rfl rfl rfl rfl rfl ?_;refine zd ?_;refine Q6 ?_;refine tu ?_;refine a_.fX rfl rfl rfl ?_;refine Fo ?_;refine zX (Zl) ?_;refine k9 ?_;(with_reducible apply a_.oE);(iterate 5 exact rfl);exact ag;exact rfl;exact rfl;refine Q0 ?_;(with_reducible apply a_.fD);exact rfl;exact ah;(iterate 9 exact rfl);exact aa;refine Q0 ?_;refine vG ?_;refine Q0 ?_;refine zm ?_;refine zj ?_;refine lK ?_)
   exact⟨v+1,by omega,by omega,fe rfl (by(refine⟨.ff (by first|rfl|(rw[e];rfl)) rfl,?_⟩;refine⟨.fm (by first|rfl|(rw[e];rfl)),?_⟩;refine⟨.fm (by first|rfl|(rw[e];rfl)),?_⟩;(iterate 3 refine aC ?_);exact trivial)) (by(refine aF ?_;refine⟨.box _ rfl ?_,?_⟩;refine⟨.ff (by first|rfl|(rw[e];rfl)) rfl,?_⟩;refine⟨.ff (by first|rfl|(rw[e];rfl)) rfl,?_⟩;refine⟨.ff (by first|rfl|(rw[e];rfl)) rfl,?_⟩;refine⟨.fm (by first|rfl|(rw[e];rfl)),?_⟩;refine⟨.ff (by first|rfl|(rw[e];rfl)) rfl,?_⟩;refine⟨.fm (by first|rfl|(rw[e];rfl)),?_⟩;refine⟨.ff (by first|rfl|(rw[e];rfl)) rfl,?_⟩;refine⟨.ff (by first|rfl|(rw[e];rfl)) rfl,?_⟩;refine⟨.fm (by first|rfl|(rw[e];rfl)),?_⟩;refine⟨.fm (by first|rfl|(rw[e];rfl)),?_⟩;refine⟨.fm (by first|rfl|(rw[e];rfl)),?_⟩;refine⟨.ff (by first|rfl|(rw[e];rfl)) rfl,?_⟩;refine⟨.fm (by first|rfl|(rw[e];rfl)),?_⟩;refine⟨.iz (by first|rfl|(rw[e];rfl)),?_⟩;refine⟨.iz (by first|rfl|(rw[e];rfl)),?_⟩;exact trivial;(iterate 3 refine aF ?_);refine⟨.fb rfl (by first|rfl|(rw[e];rfl)),?_⟩;(iterate 2 refine aF ?_);refine⟨.fb rfl (by first|rfl|(rw[e];rfl)),?_⟩;refine aF ?_;refine⟨.fb rfl (by first|rfl|(rw[e];rfl)),?_⟩;refine aF ?_;refine⟨.box _ rfl ?_,?_⟩;refine⟨.fm (by first|rfl|(rw[e];rfl)),?_⟩;refine⟨.iz (by first|rfl|(rw[e];rfl)),?_⟩;(iterate 2 exact trivial))) rfl⟩
  ·obtain rfl:v=n:=by omega
   rw[show(qj v t.model).take v=qj v t.model from List.take_of_length_le (by rw[Jq];exact aP _)]
   have iX:=ht.FT
   have kY:=ht.Ux
   have TV:=O9 t iX
   have hpr:=L0 t aJ kY
   simp only[ie,ij,Sv,JI] at TV hpr
   (refine sd ?_;refine vA ?_;refine a_.leq rfl rfl rfl rfl rfl ?_;refine zd ?_;refine tW ?_;refine AW.mS 15 ?_)
   refine Stop.go ?_
   refine AW.Su 12 rfl ?_
   refine aB ?_
   (refine zq ?_;(iterate 2 refine zm ?_);refine a_.fN rfl rfl rfl ?_;refine zX (TV) ?_;refine k9 ?_;refine a_.fN rfl rfl rfl ?_;refine zX (hpr) ?_;refine k9 ?_;(iterate 4 refine za ?_);refine zd ?_;refine AW.ret ?_)
   (apply Gi (((k,qj v t.model,t.core,t.proof):Int×List Bool×List Int×List (List Int))) (⟨t,ht,rfl,rfl,rfl⟩);((exact Ej.four (.tmp rfl rfl) (.tmp rfl rfl) (.tmp rfl rfl) (.tmp rfl rfl)));((refine Q99 ?_;(iterate 2 exact trivial)));(skip);exact rfl)
end Go.Ab
/- What solving gives,in terms of assignments. -/
namespace Go.Ab
open Go Go.Proofs
def zE (v:List Bool):Nat→Bool:=fun u=>v.getD (u - 1) false
theorem pC {n:Nat} {v:List Bool} {x:Int} (hx:Lit n x):kj (zE v) x↔jZ v x=true:=by
 obtain⟨h0,_,_⟩:=hx
 unfold kj jZ zE
 by_cases h:x<0
 ·rw[if_pos h,if_neg aJ,if_pos h,show fk x - 1=(0 - x - 1).toNat by unfold fk;omega]
  cases v.getD (0 - x - 1).toNat false<;>simp
 ·rw[if_neg h,if_pos aJ,show fk x - 1=(x - 1).toNat by unfold fk;omega]
theorem mM {n:Nat} {v:List Bool} {F:List (List Int)} (hF:∀c∈F,∀x∈c,Lit n x):ns (zE v) F↔allM v F=true:=by
 unfold ns allM kU
 simp only[bD,dc]
 constructor
 ·intro h c hc
  obtain⟨x,hx,ht⟩:=h c hc
  exact⟨x,hx,(pC (hF c hc x hx)).1 ht⟩
 ·intro h c hc
  obtain⟨x,hx,ht⟩:=h c hc
  exact⟨x,hx,(pC (hF c hc x hx)).2 ht⟩
def B1 (n:Nat) (L:List Int):List Bool:=(bc n).map fun i=>decide (((i+1:Nat):Int)∈L)
theorem KO (n:Nat) (L:List Int):(B1 n L).length=n:=by simp [B1]
theorem uA {n:Nat} {L:List Int} {u:Nat} (h1:1≤u) (h2:u≤n):zE (B1 n L) u=pX L u:=by
 unfold zE B1 pX
 rw[c6,List.getElem?_map,List.getElem?_range aJ]
 simp only[Option.map_some,Option.getD_some]
 rw[show u - 1+1=u by omega]
theorem kj.congr {n:Nat} {σ τ:Nat→Bool} {x:Int} (hx:Lit n x) (h:∀u,1≤u→u≤n→σ u=τ u):kj σ x↔kj τ x:=by
 have:=jS hx
 unfold kj
 rw[h _ this.1 this.2]
theorem ns.congr {n:Nat} {σ τ:Nat→Bool} {F:List (List Int)} (hF:∀c∈F,∀x∈c,Lit n x) (h:∀u,1≤u→u≤n→σ u=τ u) (hs:ns σ F):ns τ F:=fun c hc=>by
 obtain⟨x,hx,ht⟩:=hs c hc
 exact⟨x,hx,(kj.congr (hF c hc x hx) h).1 ht⟩
section
variable {n:Nat} {F:List (List Int)} {A:List Int} {q:Int×List Bool×List Int×List (List Int)}
theorem fK.one (h:fK n F A q) (hn:n≤8):q.1=1∨q.1=2:=by
 obtain⟨t,h1,_⟩:=h
 rcases h1.res with ⟨e,_⟩|⟨e,_⟩|⟨_,_,_,e⟩
 ·exact .inl e
 ·exact .inr e
 ·exfalso
  have:3 ^ n≤3 ^ 8:=Nat.pow_le_pow_right aJ hn
  have:3 ^ 8=6561:=by decide
  omega
theorem fK.zG (h:fK n F A q):∀c∈F,∀x∈c,Lit n x:=by
 obtain⟨t,h1,_⟩:=h
 exact fun c hc=>h1.lits c (bX.2 (.inl hc))
theorem fK.Oj (h:fK n F A q) {σ:Nat→Bool} (hσ:ns σ F):ns σ (F++q.2.2.2):=by
 obtain⟨t,h1,_,_,e⟩:=h
 rw[e]
 exact h1.vQ.sound hσ fun c hc x hx=>(h1.lits c hc x hx).1
theorem fK.unsat (h:fK n F A q) (h2:q.1=2) {σ:Nat→Bool} (hσ:ns σ F) (hA:∀x∈A,kj σ x):False:=by
 have hL:=h.Oj hσ
 obtain⟨t,h1,_,_,e⟩:=h
 rcases h1.res with ⟨e1,_⟩|⟨_,_,P,e2,e3,_,e4⟩|⟨e1,_⟩
 ·omega
 ·rw[e,e2] at hL
  obtain⟨y,hy,ht⟩:=hL (t.core.map fun y=> -y) (by simp)
  obtain⟨x,hx,rfl⟩:=bx.1 hy
  exact(kj.neg (e4 x hx).1).1 ht (hA x (e3 x hx))
 ·omega
theorem fK.sat (h:fK n F A q) (h2:q.1=1):∃L,A0 n F A L∧q.2.1=B1 n L∧q.2.2.1=[]:=by
 obtain⟨t,h1,e1,e3,_⟩:=h
 rcases h1.res with ⟨_,L,e2,e4,hl⟩|⟨e2,_⟩|⟨e2,_⟩
 ·refine⟨L,hl,?_,by rw[e3,e4]⟩
  rw[e1,e2]
  unfold qj B1
  apply dK
  intro i hi
  have hi:=dG.1 hi
  rw[uw L aJ]
  by_cases h3:((i+1:Nat):Int)∈L
  ·rw[if_pos h3,decide_eq_true h3];rfl
  ·rw[if_neg h3,decide_eq_false h3,decide_eq_false_iff_not]
   split<;>omega
 ·omega
 ·omega
theorem fK.Jn (h:fK n F A q) (h2:q.1=1):q.2.1.length=n∧allM q.2.1 F=true:=by
 obtain⟨L,hl,e,_⟩:=h.sat h2
 rw[e]
 refine⟨KO n L,(mM h.zG).1 (ns.congr h.zG (fun u h1 h2=>(uA h1 h2).symm) hl.sat)⟩
theorem fK.iff (h:fK n F A q) (hn:n≤8) (hA:∀x∈A,Lit n x):q.1=1↔∃v:List Bool,v.length=n∧allM v F=true∧oO v A=true:=by
 constructor
 ·intro h2
  obtain⟨L,hl,e,_⟩:=h.sat h2
  obtain⟨q1,q2⟩:=h.Jn h2
  refine⟨q.2.1,q1,q2,?_⟩
  unfold oO
  rw[bD]
  intro x hx
  rw[e,← pC (hA x hx)]
  exact(kj.congr (hA x hx) fun u h1 h2=>(uA h1 h2).symm).1 ((rn hl.iU hl.full (hA x hx)).2 (hl.sP x hx))
 ·rintro⟨v,q1,q2,q3⟩
  rcases h.one hn with e|e
  ·exact e
  ·exfalso
   refine h.unsat e ((mM h.zG).2 q2) fun x hx=>(pC (hA x hx)).2 ?_
   unfold oO at q3
   exact bD.1 q3 x hx
end
end Go.Ab
/- Unit propagation's run,and what is derived:the same. -/
namespace Go.Ab
open Go Go.Proofs
theorem yC {l:List Int}:gH l=true↔∃x∈l,-x∈l:=by
 unfold gH
 rw[dc]
 simp
theorem Od {vars:Int} {cl:List (List Int)} {az:List Int} {A:Int→Prop} (hv:0≤vars) (iX:∀c∈cl,e8 vars c=true) (hw:e8 vars az=true) (hc:gH az=false) (hA:∀x∈az,A x):∀x∈(runM vars cl az).1,qB cl A x:=by
 refine Em hv iX hw hc (fun t=>∀x∈t,qB cl A x) (fun x hx=> .sP (hA x ((pO az x).1 hx))) fun t c x Jp hI _ ho hx _ _ y hy=>?_
 rcases bX.1 hy with hy|hy
 ·exact hI y hy
 ·rw[cq.1 hy]
  refine .unit Jp hx fun z hz gn=>?_
  rcases((qa t c [] [x] ho).2 z hz).2 with q|q
  ·exact hI _ q
  ·exact absurd (by simpa using q) gn
theorem K0 {vars:Int} {cl:List (List Int)} {c:List Int} (hv:0≤vars) (iX:∀d∈cl,e8 vars d=true) (hc:e8 vars c=true):ia vars cl c=true↔RD cl c:=by
 have VM:∀d∈cl,∀x∈d,x≠0:=fun d hd x hx=>(fP (iX d hd) x hx).1
 have hw:e8 vars (c.map fun x=>0 - x)=true:=by
  unfold e8
  rw[bD]
  intro y hy
  obtain⟨x,hx,rfl⟩:=bx.1 hy
  have:=fP hc x hx
  simp only[decide_eq_true_eq]
  omega
 cases tF:gH (c.map fun x=>0 - x) with
 |true=>
  unfold ia
  rw[if_pos tF]
  refine⟨fun _=>?_,fun _=>rfl⟩
  obtain⟨y,hy,hn⟩:=yC.1 tF
  obtain⟨x,hx,rfl⟩:=bx.1 hy
  obtain⟨z,hz,e⟩:=bx.1 hn
  refine .inr ⟨x,hx,?_⟩
  rw[show -x=z by omega];exact hz
 |false=>
  have hF:=BB hv iX hw tF
  unfold ia
  rw[if_neg (by rw[tF];simp),decide_eq_true_eq]
  constructor
  ·intro h
   rcases hF.fin with ⟨q,_⟩|⟨j,hj,_,q⟩
   ·omega
   ·left
    have hd:=Od (A:=EU c) hv iX hw tF fun x hx=>by
     obtain⟨z,hz,rfl⟩:=bx.1 hx
     show -(0 - z)∈c
     rw[show -(0 - z)=z by omega];exact hz
    exact⟨cl[j],cY hj,fun y hy=>hd _ (yr (VM _ (cY hj)) q y hy)⟩
  ·intro h
   rcases hF.fin with ⟨_,q⟩|⟨j,hj,e,_⟩
   ·exfalso
    have hT:=hF.dist
    have iT:∀x,qB cl (EU c) x→x∈(runM vars cl (c.map fun x=>0 - x)).1:=fun x hx=>by
     induction hx with
     | @sP x h=>
      rw[hF.mem]
      exact bX.2 (.inl (bx.2 ⟨-x,h,by omega⟩))
     | @unit d x hd hx _ ih=>exact v8 hT (VM d hd) (q d hd) ih
    rcases h with ⟨d,hd,j4⟩|⟨x,h1,h2⟩
    ·have:=v8 (x:=0) hT (VM d hd) (q d hd) fun y hy _=>iT _ (j4 y hy)
     exact(hT.2 0 this).1 rfl
    ·have:gH (c.map fun x=>0 - x)=true:=yC.2 ⟨0 - x,bx.2 ⟨x,h1,rfl⟩,bx.2 ⟨-x,h2,by omega⟩⟩
     rw[tF] at this;cases this
   ·omega
end Go.Ab
/- The laws through the layers:the examples at their heads. -/
namespace Go.Ab
open Go Go.Proofs
set_option maxRecDepth 20000
set_option maxHeartbeats 8000000
def j2 (P:List (List Int)):List gN:=P.map fun l=>⟨1,l,0⟩
theorem AN (P:List (List Int)):P.map qv=(j2 P).map encS:=by
 unfold j2
 rw[List.map_map];rfl
theorem FF {v:Int} {cl:List (List Int)} {s:List (List Int)}:tx ⟨v,cl,s⟩ (jE v cl) [] where
 len:=fun v h1 h2=>h1
 all:=fun v h1 h2=>h2
 pre:=fun v h1 h2=>⟨[],by rw[List.append_nil];rfl⟩
 Ah:=fun hr v h1 h2=>by
  have hr:(cl.any fun c=>decide ((c.length:Int)=0))=true:=hr
  obtain⟨c,hc,h0⟩:=dc.1 hr
  have h0:c=[]:=bk (by simpa using h0)
  have:=bD.1 h2 c hc
  rw[h0] at this
  simp [kU] at this
def z6 (n:Nat) (cl syms:List (List Int)) (l:List gN):Bool:=decide ((jy ⟨n,cl,syms⟩ (jE n cl) l).2=l.length) && (jy ⟨n,cl,syms⟩ (jE n cl) l).1.ref
theorem E1 {n:Nat} {cl syms:List (List Int)} {l:List gN} (iT:NO n cl syms l) (h:z6 n cl syms l=true) {v:List Bool} (h1:v.length=n) (h2:allM v cl=true):False:=by
 unfold z6 at h
 rw[aZ,decide_eq_true_eq] at h
 exact(AH (e:=⟨n,cl,syms⟩) (fun c hc=>(iT.iX c hc).1) (by show(0:Int)≤n;omega) l FF iT.ok iT.hl.2 h.1).2 h.2 v (by rw[h1]) h2
theorem Hs:∀(P:List (List Int)),wS (j2 P)=P.length
 |[]=>rfl
 |c::P=>by
  have ih:=Hs P
  unfold wS j2 at*
  simp only[List.map_cons,List.sum_cons,dL]
  rw[show wT ⟨1,c,0⟩=1 from if_neg (show ¬(1:Int)=3 by decide)]
  omega
theorem fK.Wb {n:Nat} {F:List (List Int)} {A:List Int} {q:Int×List Bool×List Int×List (List Int)} (h:fK n F A q) (hn:n≤400) {G:List (List Int)} (hG:∀c∈G,e8 n c=true∧c.length≤1000) (ZQ:G.length≤1000):NO n G [] (j2 q.2.2.2):=by
 obtain⟨t,h1,_,_,e⟩:=h
 have hlen:∀c∈t.proof,c.length≤2*n+2:=fun c hc=>by
  have:=kO (n:=2*n+2) (l:=c.map eX) (by
   unfold List.Nodup
   rw[dC]
   exact(h1.nd c hc).imp_of_mem fun {a b} ha hb sS e=>sS (iw (h1.lits c (bX.2 (.inr hc)) a ha) (h1.lits c (bX.2 (.inr hc)) b hb) (by rw[e]))) fun v hv=>by
   obtain⟨a,ha,rfl⟩:=bx.1 hv
   have:=gT (h1.lits c (bX.2 (.inr hc)) a ha)
   omega
  simpa using this
 have hw:=Hs t.proof
 have hp:=h1.plen2
 rw[e]
 refine⟨by omega,hG,ZQ,⟨by simp,fun c hc=>by simp at hc⟩,⟨?_,fun s hs=>?_⟩,by unfold j2;rw[a6];exact hp⟩
 ·omega
 ·unfold j2 at hs
  obtain⟨c,hc,rfl⟩:=bx.1 hs
  have:=hlen c hc
  show c.length≤900
  omega
theorem fK.inC {n:Nat} {F:List (List Int)} {A:List Int} {q:Int×List Bool×List Int×List (List Int)} (h:fK n F A q) (hn:n≤8) {G:List (List Int)} (hG:∀c∈G,e8 n c=true∧c.length≤1000) (ZQ:G.length≤1000):NO n G [] (j2 q.2.2.2):=h.Wb aJ hG ZQ
abbrev SZ:List (List Int):=[[1,2],[-1,2],[1,-2]]
abbrev VF:List (List Int):=[[1,2],[-1,2],[1,-2],[-1,-2]]
theorem OP:∀v:List Bool,v.length=2→allM v SZ=true→v=[true,true]:=by
 intro v h1 h2
 match v,h1 with
 |[a,b],_=>cases a<;>cases b<;>first|rfl|(exfalso;revert h2;decide)
theorem Me:∀v:List Bool,v.length=2→allM v VF=true→False:=by
 intro v h1 h2
 match v,h1 with
 |[a,b],_=>cases a<;>cases b<;>(revert h2;decide)
theorem Kv {F:List (List Int)} (h:(F.all fun c=>c.all fun x=>decide (x≠0∧ -2≤x∧x≤2))=true):∀c∈F,∀x∈c,Lit 2 x:=fun c hc x hx=>by
 rw[bD] at h
 have:=bD.1 (h c hc) x hx
 simp only[decide_eq_true_eq] at this
 exact⟨this.1,by omega,by omega⟩
theorem Df {F:List (List Int)} (h:∀c∈F,∀x∈c,Lit 2 x) (h2:(F.all fun c=>decide (c.length≤2))=true):(∀c∈F,c.length≤1000000∧∀x∈c,Lit 2 x)∧∀c∈F,e8 (2:Nat) c=true∧c.length≤1000:=by
 rw[bD] at h2
 refine⟨fun c hc=>⟨by have:=h2 c hc;simp at this;omega,h c hc⟩,fun c hc=>⟨?_,by have:=h2 c hc;simp at this;omega⟩⟩
 unfold e8
 rw[bD]
 intro x hx
 obtain⟨_,_,_⟩:=h c hc x hx
 simp only[decide_eq_true_eq]
 omega
theorem ZI:e8 (2:Nat) [1]=true:=by decide
attribute [local irreducible] AW a_ gr fz AR fH fv fM gk canon kf kG pA qs nK e8 jm ia jy iv
theorem KI:Fn Tryz.prog 5 [] (fq true):=by
 obtain⟨f1,f2⟩:=Df (F:=SZ) (Kv (by decide)) (by decide)
 obtain⟨g1,g2⟩:=Df (F:=VF) (Kv (by decide)) (by decide)
 have h1:=uQ 2 SZ [] aJ (by simp) f1 (by simp) (by simp)
 have h2:=uQ 2 VF [1] aJ (by simp) g1 (by intro x hx;simp at hx;subst hx;exact⟨by omega,by omega,by omega⟩) (by simp)
 refine Fn.enter (n:=77) Tryz.func5 rfl rfl rfl rfl rfl (by decide) fun g fp fl=>?_;(try refine nz ?_)
 (refine u6 ?_;refine UW ?_;refine a_.W5 rfl rfl rfl rfl rfl rfl rfl rfl rfl rfl rfl rfl rfl rfl ?_;refine nz ?_;refine a_.oZ 24 [0,1] rfl rfl rfl rfl rfl rfl rfl rfl rfl ?_;refine nz ?_;refine mV ?_;refine kV ?_;refine ko ?_;refine mJ ?_;refine a_.M3 rfl rfl ?_;refine nz ?_;(with_reducible apply a_.kI (hf:=h1));(with_reducible assumption);(iterate 3 exact rfl);exact aq;exact ak;(intro x_;exact rfl);exact rfl;exact al;(intro x_;exact al);(intro x_;exact rfl);exact rfl;(intro x_ rL);refine Q1 ?_;refine nz ?_;refine QY ?_;refine zd ?_;refine AW.mS 3 ?_)
 obtain⟨k,vals,core,P⟩:=x_
 have hs:=rL
 simp only at hs ⊢
 have hk:k=1:=(hs.iff aJ (by simp)).2 ⟨[true,true],rfl,by decide,by decide⟩
 subst hk
 obtain⟨q1,q2⟩:=hs.Jn rfl
 have hv:=OP vals q1 q2
 subst hv
 refine Stop.go ?_
 (refine iK ?_;refine KH ?_;refine nz ?_;refine UW ?_;refine a_.JP rfl rfl ?_;refine nz ?_;refine a_.bs4 rfl rfl rfl rfl rfl rfl rfl rfl rfl rfl rfl rfl rfl rfl rfl rfl rfl ?_;refine nz ?_;refine a_.oZ 24 [0,1] rfl rfl rfl rfl rfl rfl rfl rfl rfl ?_;refine nz ?_;refine mV ?_;refine kV ?_;refine ko ?_;refine mJ ?_;refine tE ?_;refine a_.M3 rfl rfl ?_;refine nz ?_;refine a_.M3 rfl rfl ?_;refine nz ?_;(with_reducible apply a_.kI (hf:=h2));(with_reducible assumption);(iterate 3 exact rfl);exact aq;exact ak;(intro x_;exact rfl);exact rfl;exact al;(intro x_;exact al);(intro x_;exact rfl);exact rfl;(intro x_ rL);refine Q1 ?_;refine nz ?_;refine QY ?_;refine kW ?_;refine AW.mS 5 ?_)
 obtain⟨k2,vals2,core2,P2⟩:=x_
 have Ub:=rL
 simp only at Ub ⊢
 refine Stop.go ?_
 have qh:k2=2:=(Ub.one aJ).resolve_left fun e=>by
  obtain⟨q1,q2⟩:=Ub.Jn e
  exact Me vals2 q1 q2
 subst qh
 have iX:core2.length≤1∧0<P2.length:=by
  obtain⟨t,t1,_,t2,t3⟩:=Ub
  rcases t1.res with ⟨e,_⟩|⟨_,_,Q,e1,e2,e3,_⟩|⟨e,_⟩
  ·cases e
  ·have t2:core2=t.core:=t2
   have t3:P2=t.proof:=t3
   refine⟨?_,by rw[t3,e1];simp⟩
   rw[t2]
   match t.core,e2,e3 with
   |[],_,_=>simp
   |[a],_,_=>simp
   |a::b::r,e2,e3=>
    exfalso
    have ha:=e2 a (by simp)
    have hb:=e2 b (by simp)
    simp at ha hb
    subst ha
    subst hb
    simp at e3
  ·cases e
 obtain⟨c1,c2⟩:=iX
 have iT:=Ub.inC aJ (G:=SZ) f2 (by simp)
 have hr:=xD (2:Nat) SZ [] (j2 P2) iT
 have M4:z6 2 SZ [] (j2 P2)=false:=by
  cases h:z6 2 SZ [] (j2 P2) with
  |false=>rfl
  |true=>exact(E1 iT h (v:=[true,true]) rfl (by decide)).elim
 unfold z6 at M4
 rw[M4] at hr
 rw[show steps (j2 P2)=PV.slice 3 (P2.map qv) from by rw[AN]] at hr
 have hi:=Hn (2:Nat) VF [1] ⟨by omega,fun c hc=>⟨(g2 c hc).1,by have:=(g2 c hc).2;omega⟩,by simp⟩ (by simp) ZI
 rw[show ia (2:Nat) VF [1]=true by decide+kernel] at hi
 have hP:¬((P2.length:Nat):Int)=0:=by omega
 (refine j6 ?_;refine zn ?_;refine a_.neq rfl rfl rfl rfl rfl ?_;refine zm ?_;refine rA ?_;refine zn ?_;refine DF ?_;refine Ku ?_;refine iK ?_;refine qI ?_;refine zm ?_;refine rA ?_;refine a_.AF rfl rfl rfl rfl rfl rfl rfl rfl aJ ?_;refine nz ?_;refine zl ?_;refine zr ?_;refine xy ?_;refine rA ?_;refine a_.AF rfl rfl rfl rfl rfl rfl rfl rfl aJ ?_;refine nz ?_;refine zl ?_;refine zr ?_;refine xy ?_;refine zl ?_;refine zm ?_;refine DF ?_;refine xy ?_;refine rA ?_;refine zn ?_;refine zl ?_;refine a_.leq rfl rfl rfl rfl rfl ?_;refine xy ?_;refine zt ?_;refine mJ ?_;refine uW ?_;refine zA (hr) ?_;refine zt ?_;refine a_.not rfl rfl rfl ?_;refine zT ?_;refine zm ?_;refine zl ?_;refine mJ ?_;refine zl ?_;refine tE ?_;refine zl ?_;refine zA (hi) ?_;refine a_.jL rfl rfl rfl rfl rfl rfl ?_;refine ku ?_)
 (apply eY;(exact gm.one (.tmp rfl rfl));(refine Le.fq ?_;(first|rfl)))
end Go.Ab
/- The laws through the layers:learned clauses are redundant. -/
namespace Go.Ab
open Go Go.Proofs
open Nat (reduceAdd reduceSub)
set_option maxRecDepth 20000
set_option maxHeartbeats 8000000
theorem A0.uniq {n:Nat} {F G:List (List Int)} {A L M:List Int} (h1:A0 n F A L) (h2:A0 n G A M) (lY:∀x∈A,Lit n x) (hs:∀σ,ns σ F↔ns σ G):B1 n L=B1 n M:=by
 have key:∀v:Nat,1≤v→v≤n→pX L v=pX M v:=by
  intro v
  induction v using Nat.strongRecOn with
  |ind v ih=>
   intro q1 q2
   have e1:=fun h=>h1.min (pX M) ((hs _).2 h2.sat) (fun x hx=>(rn h2.iU h2.full (lY x hx)).2 (h2.sP x hx)) v q1 q2 (fun u p1 p2=>(ih u p2 p1 aJ).symm) h
   have e2:=fun h=>h2.min (pX L) ((hs _).1 h1.sat) (fun x hx=>(rn h1.iU h1.full (lY x hx)).2 (h1.sP x hx)) v q1 q2 (fun u p1 p2=>ih u p2 p1 aJ) h
   cases ha:pX L v with
   |true=>rw[e1 ha]
   |false=>
    cases hb:pX M v with
    |false=>rfl
    |true=>rw[e2 hb] at ha;cases ha
 unfold B1
 apply dK
 intro i hi
 exact key (i+1) aJ (by have:=dG.1 hi;omega)
theorem fK.same {n:Nat} {F G:List (List Int)} {A:List Int} {q r:Int×List Bool×List Int×List (List Int)} (hq:fK n F A q) (hr:fK n G A r) (hn:n≤8) (hA:∀x∈A,Lit n x) (hs:∀σ,ns σ F↔ns σ G):q.1=r.1∧(q.1=1→q.2.1=r.2.1):=by
 have LD:q.1=1↔r.1=1:=by
  rw[hq.iff hn hA,hr.iff hn hA]
  constructor
  ·rintro⟨v,p1,p2,p3⟩
   exact⟨v,p1,(mM hr.zG).1 ((hs _).1 ((mM hq.zG).2 p2)),p3⟩
  ·rintro⟨v,p1,p2,p3⟩
   exact⟨v,p1,(mM hq.zG).1 ((hs _).2 ((mM hr.zG).2 p2)),p3⟩
 have h1:=hq.one hn
 have h2:=hr.one hn
 refine⟨by omega,fun h=>?_⟩
 obtain⟨L,l1,l2,_⟩:=hq.sat h
 obtain⟨M,m1,m2,_⟩:=hr.sat (LD.1 h)
 rw[l2,m2]
 exact l1.uniq m1 hA hs
theorem fK.Wf {n:Nat} {F:List (List Int)} {A:List Int} {q:Int×List Bool×List Int×List (List Int)} (h:fK n F A q):∀c∈q.2.2.2,c.length≤2*n+2:=fun c hc=>by
 obtain⟨t,h1,_,_,e⟩:=h
 rw[e] at hc
 have:=kO (n:=2*n+2) (l:=c.map eX) (by
  unfold List.Nodup
  rw[dC]
  exact(h1.nd c hc).imp_of_mem fun {a b} ha hb sS e=>sS (iw (h1.lits c (bX.2 (.inr hc)) a ha) (h1.lits c (bX.2 (.inr hc)) b hb) (by rw[e]))) fun v hv=>by
  obtain⟨a,ha,rfl⟩:=bx.1 hv
  have:=gT (h1.lits c (bX.2 (.inr hc)) a ha)
  omega
 simpa using this
theorem pM {n:Nat} {c:List Int} (h:∀x∈c,Lit n x):e8 n c=true:=by
 unfold e8
 rw[bD]
 intro x hx
 obtain⟨_,_,_⟩:=h x hx
 simp only[decide_eq_true_eq]
 omega
attribute [local irreducible] AW a_ gr fz AR fH fv fM gk canon kf kG pA qs nK e8 jm ia jy iv MC
theorem L3 (a:List Bool) (ha:a.length≤1000000):Fn Tryz.prog 13 [.pv (qV a),.pv (qV a)] (fq true):=by
 refine Fn.enter (n:=26) Tryz.func13 rfl rfl rfl rfl rfl (by decide) fun g fp fl=>?_;(try refine nz ?_)
 refine AW.jK 0 rfl fun hlen=>?_
 (refine Sg ?_;refine qx ?_;refine iK ?_;refine wX ?_)
 (refine nz ?_;apply AW.gJ [0,1] [] (fun i:Nat=>([(5,eU i)]:List (Nat×AV))) (fun i:Nat=>([]:List (Nat×Option Ob))) (fun i:Nat=>i≤a.length) (fun i:Nat=>a.length - i) (0);(conv=>lhs;simp only[Nf.ot,Nf.all,df,reduceAdd,reduceSub]);(all_goals skip))
 ·exact bm _
 ·exact fe rfl (by(refine aC ?_;(iterate 2 refine aC ?_);exact trivial)) (by(exact trivial)) rfl
 rintro i hi
 by_cases fy:i<a.length
 ·cases hc:a[i] with
  |true=>
   (refine FH ?_;refine Q6 ?_;refine zo ?_;(with_reducible apply AW.gb);exact rfl;exact rfl;kernel_rfl;(with_reducible assumption);(iterate 2 refine zm ?_);refine aA ?_;refine zr ?_;(iterate 2 refine zm ?_);refine aA ?_;refine zr ?_;refine a_.Rc rfl rfl rfl rfl rfl rfl ?_;refine zd ?_;(focus ((with_reducible apply AW.sW);exact rfl;exact rfl;all_goals intro oD));refine iK ?_;refine qR ?_;(all_goals skip);rotate_left;refine AW.skip ?_;refine uH ?_;refine xx ?_;(all_goals skip);rotate_left)
   all_goals first|exact absurd rfl oD|exact⟨i+1,by omega,by omega,fe rfl (by(refine aC ?_;exact Fq)) (by(exact trivial)) rfl⟩
  |false=>
   (refine FH ?_;refine Q6 ?_;refine zo ?_;(with_reducible apply AW.gb);exact rfl;exact rfl;kernel_rfl;(with_reducible assumption);(iterate 2 refine zm ?_);refine aA ?_;refine zr ?_;(iterate 2 refine zm ?_);refine aA ?_;refine zr ?_;refine a_.Rc rfl rfl rfl rfl rfl rfl ?_;refine zd ?_;(focus ((with_reducible apply AW.sW);exact rfl;exact rfl;all_goals intro oD));refine iK ?_;refine qR ?_;(all_goals skip);rotate_left;refine AW.skip ?_;refine uH ?_;refine xx ?_;(all_goals skip);rotate_left)
   all_goals first|exact absurd rfl oD|exact⟨i+1,by omega,by omega,fe rfl (by(refine aC ?_;exact Fq)) (by(exact trivial)) rfl⟩
 ·(refine FH ?_;refine tW ?_;refine iK ?_;refine ku ?_)
  (apply eY;(exact gm.one (.tmp rfl rfl));(refine Le.fq ?_;(rfl)))
end Go.Ab
/- Assignments by number. -/
namespace Go.Ab
open Go Go.Proofs
def gI:Nat→Nat→List Bool
 |0,_=>[]
 |n+1,k=>gI n (k / 2)++ [decide (k % 2=1)]
theorem kM:∀n k,(gI n k).length=n
 |0,_=>rfl
 |n+1,k=>by simp [gI,kM n]
theorem nO {n k u:Nat} (h:u<n):(gI (n+1) k).getD u false=(gI n (k / 2)).getD u false:=by
 rw[gI,c6,c6,aT (by rw[kM];exact h)]
theorem AL {n k:Nat}:(gI (n+1) k).getD n false=decide (k % 2=1):=by
 rw[gI,c6,aV (by rw[kM];exact aP _),kM,Nat.sub_self]
 rfl
theorem yj:∀{n i m:Nat},i<m→m<2 ^ n→∃v,v<n∧(∀u,u<v→(gI n i).getD u false=(gI n m).getD u false)∧(gI n i).getD v false=false∧(gI n m).getD v false=true
 |0,i,m,h1,h2=>by simp at h2;omega
 |n+1,i,m,h1,h2=>by
  rw[dM] at h2
  by_cases h:i / 2<m / 2
  ·obtain⟨v,q1,q2,q3,q4⟩:=yj (n:=n) h (by omega)
   exact⟨v,by omega,fun u hu=>by rw[nO aJ,nO aJ];exact q2 u hu,by rw[nO q1];exact q3,by rw[nO q1];exact q4⟩
  ·have he:i / 2=m / 2:=by omega
   refine⟨n,by omega,fun u hu=>by rw[nO hu,nO hu,he],?_,?_⟩
   ·rw[AL,decide_eq_false_iff_not];omega
   ·rw[AL,decide_eq_true_eq];omega
theorem tO:∀{n:Nat} {l:List Bool},l.length=n→∃k,k<2 ^ n∧gI n k=l
 |0,l,h=>⟨0,by simp,by rw[bk h];rfl⟩
 |n+1,l,h=>by
  obtain⟨k,h1,h2⟩:=tO (n:=n) (l:=l.dropLast) (by rw[List.length_dropLast,h];rfl)
  have gn:l≠ []:=by intro e;rw[e] at h;simp at h
  have hl:=List.dropLast_concat_getLast gn
  rw[dM]
  cases hb:l.getLast gn with
  |true=>
   refine⟨2*k+1,by omega,?_⟩
   rw[gI,show(2*k+1) / 2=k by omega,h2,decide_eq_true (show(2*k+1) % 2=1 by omega),← hb]
   exact hl
  |false=>
   refine⟨2*k,by omega,?_⟩
   rw[gI,show(2*k) / 2=k by omega,h2,decide_eq_false (show ¬(2*k) % 2=1 by omega),← hb]
   exact hl
def Dc (n:Nat) (cl:List (List Int)) (a:List Int) (i:Nat):Bool:=allM (gI n i) cl && oO (gI n i) a
end Go.Ab
/- The solver's proof is one for the checker;the least assignment's number. -/
namespace Go.Ab
open Go Go.Proofs
set_option maxRecDepth 20000
set_option maxHeartbeats 4000000
theorem CE {e:qO} {s:o8} {c:List Int} (h1:e8 s.vars c=true) (h2:ia s.vars s.cl c=true):iv e s ⟨1,c,0⟩=some (xC s c):=by
 rw[Bo rfl,n9,if_pos ⟨rfl,h1,h2⟩]
theorem AI {e:qO} {n:Nat} {F P:List (List Int)} (WX:wb F P) (hl:∀c∈F++P,∀x∈c,Lit n x):∀(k i:Nat),i+k=P.length→∀s:o8,s.vars=n→s.cl=F++P.take i→(jy e s (j2 (P.drop i))).2=k∧(jy e s (j2 (P.drop i))).1.ref=(s.ref||(P.drop i).any fun c=>decide ((c.length:Int)=0))
 |0,i,h,s,h1,h2=>by
  rw[List.drop_of_length_le (show P.length≤i by omega)]
  exact⟨rfl,by simp [j2,jy]⟩
 |k+1,i,h,s,h1,h2=>by
  have hi:i<P.length:=by omega
  have hPi:∀x∈P[i],Lit n x:=hl _ (bX.2 (.inr (cY hi)))
  have hr:ia n (F++P.take i) P[i]=true:=(K0 aJ (fun d hd=>pM (hl d (by
   rcases bX.1 hd with q|q
   ·exact bX.2 (.inl q)
   ·exact bX.2 (.inr (List.mem_of_mem_take q))))) (pM hPi)).2 (WX i hi)
  have hs:iv e s ⟨1,P[i],0⟩=some (xC s P[i]):=CE (by rw[h1];exact pM hPi) (by rw[h1,h2];exact hr)
  have ih:=AI (e:=e) WX hl k (i+1) aJ (xC s P[i]) h1 (by
   show s.cl++ [P[i]]=_
   rw[h2,List.append_assoc,← dk hi])
  rw[List.drop_eq_getElem_cons hi,show j2 (P[i]::P.drop (i+1))=⟨1,P[i],0⟩::j2 (P.drop (i+1)) from rfl,Ap hs]
  refine⟨by rw[ih.1],?_⟩
  rw[ih.2,List.any_cons]
  show((s.ref||_)||_)=_
  rw[Bool.or_assoc]
section
variable {n:Nat} {F:List (List Int)} {A:List Int} {q:Int×List Bool×List Int×List (List Int)}
theorem fK.run {e:qO} (h:fK n F A q):(jy e (jE n F) (j2 q.2.2.2)).2=q.2.2.2.length∧(jy e (jE n F) (j2 q.2.2.2)).1.ref=((F.any fun c=>decide ((c.length:Int)=0))||q.2.2.2.any fun c=>decide ((c.length:Int)=0)):=by
 obtain⟨t,h1,_,_,e⟩:=h
 rw[e]
 exact AI h1.vQ h1.lits t.proof.length 0 aJ (jE n F) rfl (by simp [jE])
theorem fK.core (h:fK n F A q) (h2:q.1=2):∃P,q.2.2.2=P++ [q.2.2.1.map fun y=> -y]∧(∀y∈q.2.2.1,y∈A)∧(∀y∈q.2.2.1,Lit n y)∧q.2.2.1.length≤2*n+2:=by
 have KU:=h.Wf
 obtain⟨t,h1,_,e3,e⟩:=h
 rcases h1.res with ⟨e1,_⟩|⟨_,_,P,e2,e4,_,e5⟩|⟨e1,_⟩
 ·omega
 ·rw[e3]
  refine⟨P,by rw[e,e2],e4,e5,?_⟩
  have:=KU (t.core.map fun y=> -y) (by rw[e,e2];simp)
  simpa using this
 ·omega
theorem fK.plen (h:fK n F A q):q.2.2.2.length≤20000:=by
 obtain⟨t,h1,_,_,e⟩:=h
 rw[e]
 exact h1.plen2
theorem fK.z6 (h:fK n F A q) (h2:q.1=2) (hA:A=[]):z6 n F [] (j2 q.2.2.2)=true:=by
 obtain⟨P,e,hc,_,_⟩:=h.core h2
 have hr:=h.run (e:=⟨n,F,[]⟩)
 have EF:q.2.2.1=[]:=by
  cases e2:q.2.2.1 with
  |nil=>rfl
  |cons x l=>
   have:=hc x (by rw[e2];simp)
   rw[hA] at this;simp at this
 unfold Go.Ab.z6
 rw[hr.1,hr.2,aZ,decide_eq_true_eq]
 refine⟨by unfold j2;rw[a6],?_⟩
 rw[Bool.or_eq_true]
 right
 rw[dc]
 exact⟨_,by rw[e];exact bX.2 (.inr (cq.2 rfl)),by rw[EF];rfl⟩
end
theorem Nr {v:List Bool} {u:Nat}:zE v (u+1)=v.getD u false:=rfl
section
variable {n:Nat} {F:List (List Int)} {A:List Int} {q:Int×List Bool×List Int×List (List Int)}
theorem fK.least (h:fK n F A q) (hn:n≤8) (hA:∀x∈A,Lit n x) {i:Nat} (hg:Dc n F A i=true) (tY:∀j,j<i→Dc n F A j=false):q.1=1∧q.2.1=gI n i:=by
 unfold Dc at hg
 rw[aZ] at hg
 have h1:q.1=1:=(h.iff hn hA).2 ⟨_,kM n i,hg.1,hg.2⟩
 refine⟨h1,?_⟩
 obtain⟨L,hL,e,_⟩:=h.sat h1
 obtain⟨q1,q2⟩:=h.Jn h1
 obtain⟨m,hm,em⟩:=tO q1
 have Xf:Dc n F A m=true:=by
  unfold Dc
  rw[em,q2,Bool.true_and]
  unfold oO
  rw[bD]
  intro x hx
  rw[e,← pC (hA x hx)]
  exact(kj.congr (hA x hx) fun u h1 h2=>(uA h1 h2).symm).1 ((rn hL.iU hL.full (hA x hx)).2 (hL.sP x hx))
 rw[← em]
 by_cases TF:m=i
 ·rw[TF]
 ·exfalso
  have Js:i<m:=by
   by_cases fy:m<i
   ·rw[tY m fy] at Xf;cases Xf
   ·omega
  obtain⟨v,v1,v2,v3,v4⟩:=yj Js hm
  have r8:∀u,u<n→pX L (u+1)=(gI n m).getD u false:=fun u hu=>by
   rw[em,e,← uA (n:=n) aJ aJ];rfl
  have:=hL.min (zE (gI n i)) ((mM h.zG).2 hg.1) (fun x hx=>(pC (hA x hx)).2 (bD.1 hg.2 x hx)) (v+1) aJ aJ (fun u u1 u2=>by
   obtain⟨w,rfl⟩:∃w,u=w+1:=⟨u - 1,by omega⟩
   rw[r8 w aJ]
   exact v2 w aJ) (by rw[r8 v v1];exact v4)
  rw[Nr,v3] at this
  cases this
end
end Go.Ab
/- Chapter 19:circuits,in plain terms. -/
namespace Go.Ab.N19
open Go Go.Proofs Go.Ab
set_option maxRecDepth 20000
set_option maxHeartbeats 4000000
structure fg where
 k:Int
 a:Int
 b:Int
deriving DecidableEq
abbrev XC (g:fg):List PV:=[.lit (.int .i64 g.k),.lit (.int .i64 g.a),.lit (.int .i64 g.b)]
abbrev Bb (l:List fg):PV:=.slice 3 (l.map XC)
abbrev DD (l:List fg):AV:=.agg [.pv (Bb l)]
def ir (r:Int):Int:=if r<0 then -1 else if r % 2=0 then r+1 else r - 1
def nZ (gs:List fg) (g:fg):Int:=if gs.any (fun h=>decide (h=g))=true then (gs.findIdx (fun h=>decide (h=g)):Nat) else -1
def rG (gs:List fg) (g:fg):List fg×Int:=if 0≤nZ gs g then (gs,2*nZ gs g) else if 20000≤gs.length then (gs,-1) else (gs++ [g],2*gs.length)
def tc (gs:List fg) (v:Int):List fg×Int:=if v<1∨20000<v then (gs,-1) else rG gs ⟨1,v,0⟩
def l_ (gs:List fg) (a b:Int):List fg×Int:=
 if a<0∨b<0∨2*(gs.length:Int)≤a∨2*(gs.length:Int)≤b then (gs,-1) else if a=1∨b=1∨b=ir a then (gs,1) else if a=0 then (gs,b) else if b=0∨a=b then (gs,a) else rG gs ⟨2,min a b,max a b⟩
def Tp (gs:List fg) (a b:Int):List fg×Int:=((l_ gs (ir a) (ir b)).1,ir (l_ gs (ir a) (ir b)).2)
def C7 (gs:List fg) (a b:Int):List fg×Int:=
 l_ (l_ (l_ gs a (ir b)).1 (ir a) b).1 (ir (l_ gs a (ir b)).2) (ir (l_ (l_ gs a (ir b)).1 (ir a) b).2)
structure pG where
 k:Int
 a:Int
 b:Int
def oL (refs:List Int) (n:Int):Int:=if n % 2=1 then ir (if 0<n / 2 % ((refs.length:Int)+1) then refs.getD (n / 2 % ((refs.length:Int)+1) - 1).toNat 0 else 0) else (if 0<n / 2 % ((refs.length:Int)+1) then refs.getD (n / 2 % ((refs.length:Int)+1) - 1).toNat 0 else 0)
def PU (gs:List fg) (refs:List Int) (s:pG):List fg×Int:=
 if s.k % 4=0 then tc gs (s.a % 8+1) else if s.k % 4=1 then l_ gs (oL refs s.a) (oL refs s.b) else if s.k % 4=2 then Tp gs (oL refs s.a) (oL refs s.b) else C7 gs (oL refs s.a) (oL refs s.b)
def stepG (p:List fg×List Int) (s:pG):List fg×List Int:=((PU p.1 p.2 s).1,p.2++ [(PU p.1 p.2 s).2])
def nj (l:List pG):List fg×List Int:=l.foldl stepG ([⟨0,0,0⟩],[])
theorem wB {l:List pG} {i:Nat} (hi:i<l.length):nj (l.take (i+1))=stepG (nj (l.take i)) l[i]:=by
 unfold nj
 rw[fI hi,List.foldl_append];rfl
def Zx (g:fg) (i:Nat):Prop:=(g.k=1∧1≤g.a∧g.a≤8∧g.b=0)∨(g.k=2∧2≤g.a∧g.a<g.b∧g.b<2*(i:Int)∧g.a / 2≠g.b / 2)
structure gD (gs:List fg):Prop where
 zero:gs[0]? =some ⟨0,0,0⟩
 ok:∀(i:Nat) (h:i<gs.length),i≠0→Zx gs[i] i
def gz (gs:List fg) (r:Int):Prop:=0≤r∧r<2*(gs.length:Int)
theorem gD.pos {gs:List fg} (h:gD gs):0<gs.length:=(List.getElem?_eq_some_iff.1 h.zero).1
theorem oM {gs:List fg} {r:Int} (h:gz gs r):gz gs (ir r):=by
 unfold ir gz at*
 rw[if_neg aJ]
 split<;>omega
theorem gz.mono {gs gs':List fg} {r:Int} (h:gz gs r) (hl:gs.length≤gs'.length):gz gs' r:=by unfold gz at*;omega
structure Grown (gs:List fg) (n:Nat) (p:List fg×Int):Prop where
 cir:gD p.1
 ref:gz p.1 p.2
 le:gs.length≤p.1.length
 len:p.1.length≤gs.length+n
theorem ry {gs:List fg} {g:fg}:nZ gs g= -1∨(0≤nZ gs g∧nZ gs g<gs.length):=by
 unfold nZ
 split
 ·rename_i h
  have:gs.findIdx (fun h=>decide (h=g))<gs.length:=by
   rw[List.findIdx_lt_length]
   obtain⟨x,hx,h⟩:=dc.1 h
   exact⟨x,hx,h⟩
  right;omega
 ·exact .inl rfl
theorem Es {gs:List fg} {g:fg} (hc:gD gs) (hg:Zx g gs.length) (hl:gs.length<20000):Grown gs 1 (rG gs g):=by
 unfold rG
 have hr:=ry (gs:=gs) (g:=g)
 split
 ·exact⟨hc,⟨by show 0≤2*nZ gs g;omega,by show 2*nZ gs g<2*(gs.length:Int);omega⟩,aP _,dN _⟩
 ·rw[if_neg aJ]
  refine⟨⟨by show(gs++ [g])[0]? =_;rw[aT hc.pos];exact hc.zero,fun i hi h0=>?_⟩,⟨by show 0≤2*(gs.length:Int);omega,by show 2*(gs.length:Int)<2*((gs++ [g]).length:Nat);rw[bW];simp only[dL,List.length_nil];omega⟩,by simp,by simp⟩
  have jJ:i<(gs++ [g]).length:=hi
  show Zx (gs++ [g])[i] i
  by_cases h:i<gs.length
  ·rw[List.getElem_append_left h];exact hc.ok i h h0
  ·have:i=gs.length:=by simp at jJ;omega
   subst this
   rw[List.getElem_append_right (aP _)]
   simpa using hg
theorem Km {gs:List fg} {v:Int} (hc:gD gs) (hv:1≤v∧v≤8) (hl:gs.length<20000):Grown gs 1 (tc gs v):=by
 unfold tc
 rw[if_neg aJ]
 exact Es hc (.inl ⟨rfl,hv.1,hv.2,rfl⟩) hl
theorem yP {gs:List fg} {a b:Int} (hc:gD gs) (ha:gz gs a) (hb:gz gs b) (hl:gs.length<20000):Grown gs 1 (l_ gs a b):=by
 have hp:=hc.pos
 unfold l_
 have Lo:=ha
 have jn:=hb
 unfold gz at Lo jn
 rw[if_neg aJ]
 split
 ·exact⟨hc,⟨by show(0:Int)≤1;omega,by show(1:Int)<2*(gs.length:Int);omega⟩,aP _,dN _⟩
 ·rename_i h1
  split
  ·exact⟨hc,hb,aP _,dN _⟩
  ·split
   ·exact⟨hc,ha,aP _,dN _⟩
   ·rename_i h2 h3
    have hn:b≠ir a:=fun h=>h1 (.inr (.inr h))
    unfold ir at hn
    rw[if_neg aJ] at hn
    refine Es hc (.inr ⟨rfl,?_,?_,?_,?_⟩) hl
    ·show 2≤min a b;omega
    ·show min a b<max a b;omega
    ·show max a b<_;omega
    ·show min a b / 2≠max a b / 2
     split at hn<;>omega
theorem P6 {gs:List fg} {a b:Int} (hc:gD gs) (ha:gz gs a) (hb:gz gs b) (hl:gs.length<20000):Grown gs 1 (Tp gs a b):=by
 have h:=yP hc (oM ha) (oM hb) hl
 exact⟨h.cir,oM h.ref,h.le,h.len⟩
theorem Sp {gs:List fg} {a b:Int} (hc:gD gs) (ha:gz gs a) (hb:gz gs b) (hl:gs.length<19000):Grown gs 3 (C7 gs a b):=by
 have h1:=yP hc ha (oM hb) (by omega)
 have h2:=yP h1.cir (oM (ha.mono h1.le)) (hb.mono h1.le) (by have:=h1.len;omega)
 have h3:=yP h2.cir (oM (h1.ref.mono h2.le)) (oM h2.ref) (by have:=h1.len;have:=h2.len;omega)
 exact⟨h3.cir,h3.ref,by have:=h1.le;have:=h2.le;have:=h3.le;unfold C7;omega,by have:=h1.len;have:=h2.len;have:=h3.len;unfold C7;omega⟩
theorem tZ {gs:List fg} {refs:List Int} {n:Int} (hc:gD gs) (hr:∀r∈refs,gz gs r) (hn:0≤n):gz gs (oL refs n):=by
 have hp:=hc.pos
 have key:gz gs (if 0<n / 2 % ((refs.length:Int)+1) then refs.getD (n / 2 % ((refs.length:Int)+1) - 1).toNat 0 else 0):=by
  have q1:n / 2 % ((refs.length:Int)+1)<(refs.length:Int)+1:=Int.emod_lt_of_pos _ (by omega)
  split
  ·rw[c6,a8 aJ]
   exact hr _ (cY _)
  ·unfold gz;omega
 unfold oL
 split
 ·exact oM key
 ·exact key
structure Hc (n:Nat) (p:List fg×List Int):Prop where
 cir:gD p.1
 refs:∀r∈p.2,gz p.1 r
 len:p.1.length≤1+3*n
 rl:p.2.length=n
theorem Wd {gs:List fg} {refs:List Int} {s:pG} (hc:gD gs) (hr:∀r∈refs,gz gs r) (hs:0≤s.k∧0≤s.a∧0≤s.b) (hl:gs.length<19000):Grown gs 3 (PU gs refs s):=by
 have m:∀{p},Grown gs 1 p→Grown gs 3 p:=fun h=>⟨h.cir,h.ref,h.le,by have:=h.len;omega⟩
 have ha:=tZ hc hr hs.2.1
 have hb:=tZ hc hr hs.2.2
 unfold PU
 split
 ·exact m (Km hc aJ aJ)
 ·split
  ·exact m (yP hc ha hb aJ)
  ·split
   ·exact m (P6 hc ha hb aJ)
   ·exact Sp hc ha hb (by omega)
theorem yA {l:List pG} (hs:∀s∈l,0≤s.k∧0≤s.a∧0≤s.b) (hl:l.length≤1000):∀i,i≤l.length→Hc i (nj (l.take i))
 |0,_=>by
  have e:nj (l.take 0)=([⟨0,0,0⟩],[]):=rfl
  rw[e]
  exact⟨⟨rfl,fun i hi h0=>by have:i<1:=hi;omega⟩,(by intro r h;cases h),aP _,rfl⟩
 |i+1,hi=>by
  have ih:=yA hs hl i (by omega)
  rw[wB aJ]
  generalize nj (l.take i)=p at ih ⊢
  have hg:=Wd ih.cir ih.refs (hs _ (cY (show i<l.length by omega))) (by have:=ih.len;omega)
  refine⟨hg.cir,fun r hr=>?_,by have:=hg.len;have:=ih.len;show(PU p.1 p.2 _).1.length≤_;omega,by show(p.2++ [_]).length=_;rw[bW,ih.rl];rfl⟩
  rcases bX.1 hr with h|h
  ·exact(ih.refs r h).mono hg.le
  ·simp at h;subst h;exact hg.ref
def P_ (vals:List Bool) (a:Int):Bool:=vals.getD (a - 1).toNat false
def BQ (done:List Bool) (r:Int):Bool:=done.getD (r / 2).toNat false==decide (r % 2=0)
def qk (vals done:List Bool) (g:fg):Bool:=if g.k=1 then P_ vals g.a else if g.k=2 then BQ done g.a && BQ done g.b else true
def ma (gs:List fg) (vals:List Bool):Nat→List Bool
 |0=>[]
 |i+1=>ma gs vals i++ [qk vals (ma gs vals i) (gs.getD i ⟨0,0,0⟩)]
theorem mu (gs:List fg) (vals:List Bool):∀i,(ma gs vals i).length=i
 |0=>rfl
 |i+1=>by rw[ma,bW,mu gs vals i];rfl
def so (gs:List fg) (vals:List Bool) (i:Nat):Bool:=(ma gs vals (i+1)).getD i false
theorem Ay (gs:List fg) (vals:List Bool):∀(m i:Nat),i<m→(ma gs vals m).getD i false=so gs vals i
 |0,i,h=>by omega
 |m+1,i,h=>by
  by_cases e:i=m
  ·subst e;rfl
  ·rw[ma,c6,aT (by rw[mu];omega),← c6,Ay gs vals m i aJ]
def jH (gs:List fg) (vals:List Bool) (r:Int):Bool:=so gs vals (r / 2).toNat==decide (r % 2=0)
theorem vq (gs:List fg) (vals:List Bool) {m:Nat} {r:Int} (h0:0≤r) (h:r<2*(m:Int)):BQ (ma gs vals m) r=jH gs vals r:=by
 unfold BQ jH
 rw[Ay gs vals m _ aJ]
theorem B4 (gs:List fg) (vals:List Bool) (i:Nat):so gs vals i=qk vals (ma gs vals i) (gs.getD i ⟨0,0,0⟩):=by
 unfold so
 rw[ma,c6,aV (by rw[mu];omega),mu]
 simp
theorem LU {gs:List fg} (hc:gD gs) (vals:List Bool) {i:Nat} (hi:i<gs.length) (hk:gs[i].k=2):so gs vals i=(jH gs vals gs[i].a && jH gs vals gs[i].b):=by
 have hg:gs.getD i ⟨0,0,0⟩=gs[i]:=by rw[c6,a8 hi];rfl
 have h0:i≠0:=fun e=>by
  subst e
  have:=hc.zero
  rw[a8 hi] at this
  rw[Option.some.inj this] at hk
  simp at hk
 rcases hc.ok i hi h0 with h|h
 ·omega
 ·rw[B4,hg,qk,if_neg aJ,if_pos hk,vq gs vals aJ aJ,vq gs vals aJ aJ]
theorem NX {gs:List fg} (vals:List Bool) {i:Nat} (hi:i<gs.length) (hk:gs[i].k=1):so gs vals i=P_ vals gs[i].a:=by
 have hg:gs.getD i ⟨0,0,0⟩=gs[i]:=by rw[c6,a8 hi];rfl
 rw[B4,hg,qk,if_pos hk]
end Go.Ab.N19
/- Chapter 19:the gates that a reference needs,in plain terms. -/
namespace Go.Ab.N19
open Go Go.Proofs Go.Ab
set_option maxRecDepth 20000
set_option maxHeartbeats 4000000
def lH (gs:List fg) (i:Nat):fg:=gs.getD i ⟨0,0,0⟩
def visitM (gs:List fg):Nat→List Int→Nat→List Int
 |0,met,_=>met
 |n+1,met,i=>if (lH gs i).k=2∧¬(i:Int)∈met then visitM gs n (visitM gs n (met++ [(i:Int)]) ((lH gs i).a / 2).toNat) ((lH gs i).b / 2).toNat else met
theorem o7 {gs:List fg} {i:Nat} (h:i<gs.length):lH gs i=gs[i]:=by unfold lH;rw[c6,a8 h];rfl
theorem vk {gs:List fg} {i:Nat} (h:(lH gs i).k=2):i<gs.length:=by
 by_cases hi:i<gs.length
 ·exact hi
 ·unfold lH at h
  rw[c6,cH aJ] at h
  simp at h
theorem gD.and {gs:List fg} (hc:gD gs) {i:Nat} (hk:(lH gs i).k=2):2≤(lH gs i).a∧(lH gs i).a<(lH gs i).b∧(lH gs i).b<2*(i:Int)∧(lH gs i).a / 2≠(lH gs i).b / 2:=by
 have hi:=vk hk
 rw[o7 hi] at hk ⊢
 have h0:i≠0:=fun e=>by
  subst e
  have:=hc.zero
  rw[a8 hi] at this
  rw[Option.some.inj this] at hk
  simp at hk
 rcases hc.ok i hi h0 with h|h
 ·omega
 ·exact⟨h.2.1,h.2.2.1,h.2.2.2.1,h.2.2.2.2⟩
theorem gD.kind {gs:List fg} (hc:gD gs) {i:Nat} (hi:i<gs.length) (h0:i≠0):((lH gs i).k=1∧1≤(lH gs i).a∧(lH gs i).a≤8)∨(lH gs i).k=2:=by
 rw[o7 hi]
 rcases hc.ok i hi h0 with h|h
 ·exact .inl ⟨h.1,h.2.1,h.2.2.1⟩
 ·exact .inr h.1
structure Ve (gs:List fg) (met out:List Int) (i:Nat):Prop where
 sub:∀x∈met,x∈out
 self:(lH gs i).k=2→(i:Int)∈out
 and:∀x∈out,x∈met∨(0≤x∧x≤i∧(lH gs x.toNat).k=2)
 kids:∀x∈out,x∈met∨((lH gs ((lH gs x.toNat).a / 2).toNat).k=2→(lH gs x.toNat).a / 2∈out)∧((lH gs ((lH gs x.toNat).b / 2).toNat).k=2→(lH gs x.toNat).b / 2∈out)
 nodup:met.Nodup→out.Nodup
theorem q_ {gs:List fg} (hc:gD gs):∀(n:Nat) (met:List Int) (i:Nat),i<n→Ve gs met (visitM gs n met i) i
 |0,met,i,h=>by omega
 |n+1,met,i,h=>by
  unfold visitM
  split
  ·rename_i hk
   obtain⟨hk,hm⟩:=hk
   obtain⟨h1,h2,h3,h4⟩:=hc.and hk
   have ea:(((lH gs i).a / 2).toNat:Int)=(lH gs i).a / 2:=by omega
   have eb:(((lH gs i).b / 2).toNat:Int)=(lH gs i).b / 2:=by omega
   have v1:=q_ hc n (met++ [(i:Int)]) ((lH gs i).a / 2).toNat (by omega)
   generalize visitM gs n (met++ [(i:Int)]) ((lH gs i).a / 2).toNat=m1 at v1 ⊢
   have v2:=q_ hc n m1 ((lH gs i).b / 2).toNat (by omega)
   generalize visitM gs n m1 ((lH gs i).b / 2).toNat=m2 at v2 ⊢
   have Pu:(i:Int)∈m1:=v1.sub _ (by simp)
   refine⟨fun x hx=>v2.sub _ (v1.sub _ (by simp [hx])),fun _=>v2.sub _ Pu,fun x hx=>?_,fun x hx=>?_,fun hn=>v2.nodup (v1.nodup ?_)⟩
   ·rcases v2.and x hx with h|h
    ·rcases v1.and x h with h|h
     ·rcases bX.1 h with h|h
      ·exact .inl h
      ·simp at h;subst h
       exact .inr ⟨by omega,Int.le_refl _,by simpa using hk⟩
     ·exact .inr ⟨h.1,by omega,h.2.2⟩
    ·exact .inr ⟨h.1,by omega,h.2.2⟩
   ·rcases v2.kids x hx with h|h
    ·rcases v1.kids x h with h|h
     ·rcases bX.1 h with h|h
      ·exact .inl h
      ·simp at h;subst h
       right
       simp only[dq]
       exact⟨fun qh=>ea▸v2.sub _ (v1.self qh),fun qh=>eb▸v2.self qh⟩
     ·exact .inr ⟨fun qh=>v2.sub _ (h.1 qh),fun qh=>v2.sub _ (h.2 qh)⟩
    ·exact .inr h
   ·rw[List.nodup_append]
    refine⟨hn,by simp,fun x hx y hy e=>?_⟩
    simp at hy;subst hy;subst e
    exact hm hx
  ·rename_i hk
   refine⟨fun x hx=>hx,fun h=>?_,fun x hx=> .inl hx,fun x hx=> .inl hx,fun h=>h⟩
   by_cases hm:(i:Int)∈met
   ·exact hm
   ·exact absurd ⟨h,hm⟩ hk
noncomputable def mU (gs:List fg) (r:Int):List Int:=canon (visitM gs gs.length [] (r / 2).toNat)
structure nf (gs:List fg) (r:Int) (G:List Int):Prop where
 inc:Gu G
 and:∀x∈G,0≤x∧x≤r / 2∧(lH gs x.toNat).k=2
 self:(lH gs (r / 2).toNat).k=2→r / 2∈G
 kids:∀x∈G,((lH gs ((lH gs x.toNat).a / 2).toNat).k=2→(lH gs x.toNat).a / 2∈G)∧((lH gs ((lH gs x.toNat).b / 2).toNat).k=2→(lH gs x.toNat).b / 2∈G)
theorem tM {gs:List fg} (hc:gD gs) {r:Int} (hr:gz gs r):nf gs r (mU gs r):=by
 unfold gz at hr
 have v:=q_ hc gs.length [] (r / 2).toNat (by omega)
 unfold mU
 generalize visitM gs gs.length [] (r / 2).toNat=m at v
 have er:((r / 2).toNat:Int)=r / 2:=by omega
 refine⟨rV _,fun x hx=>?_,fun hk=>ki.2 (er▸v.self hk),fun x hx=>?_⟩
 ·rcases v.and x (ki.1 hx) with h|h
  ·cases h
  ·exact⟨h.1,by omega,h.2.2⟩
 ·rcases v.kids x (ki.1 hx) with h|h
  ·cases h
  ·exact⟨fun hk=>ki.2 (h.1 hk),fun hk=>ki.2 (h.2 hk)⟩
end Go.Ab.N19
