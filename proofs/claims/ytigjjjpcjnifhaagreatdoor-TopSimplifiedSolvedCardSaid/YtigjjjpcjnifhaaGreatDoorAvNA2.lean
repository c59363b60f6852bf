/- The solver: the search, walked. -/
import Derived.Test.YtigjjjpcjnifhaaGreatDoorAvB8
import Derived.Test.YtigjjjpcjnifhaaGreatDoorAbZ
import Derived.Test.YtigjjjpcjnifhaaGreatDoorAbL3
import Derived.Test.YtigjjjpcjnifhaaGreatDoorAvS5
import Derived.Test.YtigjjjpcjnifhaaGreatDoorAbL4
import Derived.Test.YtigjjjpcjnifhaaGreatDoorAbL2
import Derived.Test.YtigjjjpcjnifhaaGreatDoorAvC2
import Derived.Test.YtigjjjpcjnifhaaGreatDoorAvA2
import Derived.Test.YtigjjjpcjnifhaaGreatDoorAvS7
set_option linter.unusedSimpArgs false
set_option linter.unusedVariables false
open List renaming getElem_mem→cZ,length_append→bW,length_singleton→dC,pairwise_map→dB,mem_map→bx,length_map→a6,eq_nil_of_length_eq_zero→bj,length_take→dI,getD_eq_getElem?_getD→c8,getElem?_eq_none→cE,length_take_le→dN,take_succ_eq_append_getElem→dp,map_append→cV,take_length→da,replicate→bZ,range→bc,mem_append→bX,all_eq_true→bD,any_eq_true→df,map_congr_left→dO,mem_range→dG,mem_singleton→cq,getElem?_append_right→aV,getElem?_eq_getElem→a8
open Nat renaming reduceBEq→di,zero_le→bm,blt→aY,le_refl→aP,pow_succ→dP
open Bool renaming and_eq_true→aZ
namespace Go.Ab
open Go Go.Proofs
open Nat (reduceAdd reduceSub)
set_option maxRecDepth 20000
set_option maxHeartbeats 8000000
attribute [local irreducible] gx AW a_ gb fq AR fz fk fJ fX kp lh eQ
theorem BI (n:Nat) (s:SR) (t:Nat) (ht:t<s.marks.length) (hn:n≤20000) (hv:s.value.length=n+1) (ix:jG n (s.ll 0)) (mk:∀m∈s.marks,0≤m∧m.toNat≤(s.ll 0).length) (PE:0≤s.low∧s.low≤1000000):og Tryz.prog 51 11 (gV s) [.ptr 0 0,eV t] (gV (gh s t)) (.gX []):=by
 have hl:=ix.len
 exact Ah s (EX s t) t (IW s t ht (mk _ (cZ ht)) aJ PE fun x hx=>by
  obtain⟨_,_,_⟩:=ix.xg x hx
  refine⟨by omega,?_⟩
  rw[hv]
  unfold fa;omega)
theorem vN (n:Nat) (s:SR) (hs:fR n s) (PE:vf n s):∃s':SR,og Tryz.prog 51 11 (gV s) [.ptr 0 0,eV 0] (gV s') (.gX [])∧s'.proof=s.proof∧s'.model=s.model∧s'.core=s.core:=by
 by_cases h:0<s.marks.length
 ·refine⟨gh s 0,?_,rfl,rfl,rfl⟩
  obtain⟨k,q1,q2,q3,_⟩:=PE
  have hn:=hs.hn
  exact BI n s 0 h hs.hn (by rw[hs.val,j5]) hs.ix (fun m hm=>by have:=hs.nD m hm;have:=hs.hd;omega) (by omega)
 ·refine⟨EN s,Ah s s 0 (wD s 0 aJ),rfl,rfl,rfl⟩
theorem Ia (n:Nat) (F:List (List Int)) (k:Nat) (s:SR) (hS:lR n F k s) (hk:k≤60000) (A:List Int) (hA:∀x∈A,Lit n x) (WY:A.length≤50000) (fuel:Nat) (JP:0<fuel) (Ti:fuel≤20000):tP Tryz.prog 24 11 (gV s) [.ptr 0 0,.pv (jI A),eV (fuel:Nat)] (fun q:SR×Int=>kn n F A fuel q.1 q.2) (fun q=>gV q.1) (fun q=>eV q.2):=by
 have Vb:=hS.sj (A:=A) JP
 obtain⟨s1,yV⟩:∃s1,s1={s with core:=[],model:=[]}:=⟨_,rfl⟩
 have ZE:gV {s with core:=[],model:=[]}=gV s1:=by rw[yV]
 rw[← yV] at Vb
 have ju:=Vb.si.inv
 have qR:=ju.hn
 have kj:=BJ n s1 A qR (by rw[ju.val,j5]) hA
 have TZ:s1.marks=[]:=by rw[yV];exact hS.marks
 have PM:=Ah s1 s1 0 (wD s1 0 (by rw[TZ];simp))
 rw[Ie ju] at PM
 simp only[gV,gW] at kj PM ⊢
 refine tP.enter (n:=151) Tryz.func24 rfl rfl rfl rfl rfl (by decide) rfl (fun _=>rfl) fun g fD fB=>?_;refine sF ?_
 refine AW.jE 1 rfl fun hlen=>?_
 (refine zq ?_;refine kM ?_;refine AW.scope ?_;refine ko ?_;refine Eb ?_;refine a_.c_ 94 9 14 rfl rfl rfl rfl ?_;(with_reducible apply a_.gn);(iterate 5 exact rfl);exact ag;(iterate 3 exact rfl);(with_reducible assumption);refine IQ ?_;refine a_.c_ 94 8 13 rfl rfl rfl rfl ?_;(with_reducible apply a_.gn);(iterate 5 exact rfl);exact ag;(iterate 3 exact rfl);(with_reducible assumption);refine mw ?_;refine zo ?_;refine AW.lq 2 ?_)
 refine Stop.go ?_
 refine AW.fp (δ':=⟨151,[(0,.ptr 0 0),(1,.pv (jI A)),(2,eV (fuel:Nat)),(1000,.agg [.ptr 0 0])],gV s1,11⟩) ?_ ?_
 ·subst yV
  exact fp rfl (by(refine aC ?_;refine aG ?_;refine aD ?_;refine aC ?_;exact trivial)) (by(refine⟨.box _ rfl ?_,?_⟩;(iterate 3 refine aE ?_);refine aD ?_;refine aE ?_;refine aD ?_;(iterate 2 refine aE ?_);(iterate 3 refine aD ?_);refine aE ?_;refine aD ?_;(iterate 2 refine⟨.Ip (by first|rfl),?_⟩);exact trivial;(iterate 3 refine aF ?_);refine aH ?_;(iterate 2 refine aF ?_);refine aH ?_;refine aF ?_;refine aH ?_;refine aF ?_;exact trivial)) rfl
 simp only[gV,gW]
 have Yl:¬(fuel:Int)≤0:=by omega
 (refine xy ?_;refine zm ?_;refine zX (kj) ?_;refine mB ?_;refine B9 ?_;refine pd ?_;refine a_.leq rfl rfl rfl rfl rfl ?_;refine a_.gO rfl rfl rfl rfl rfl rfl ?_;refine ph ?_;refine uo ?_;refine zX (PM) ?_;refine mB ?_;refine zd ?_;refine zq ?_;refine pz ?_;refine AW.label ?_;refine ic ?_;refine zo ?_;refine AW.block ?_)
 (refine Q0 ?_;apply AW.gN [0,1,2,1000] [1,2,3,5,6,8,10] (fun q:SR×Nat=>([(7,eV (q.2:Nat))]:List (Nat×AV))) (fun q:SR×Nat=>([(0,some (.box [.own 1 3 1 ((q.1.value).map encI),.own 2 3 1 ((q.1.level).map encI),.own 3 3 1 ((q.1.reason).map encI),.pv (.lit (q.1.hl 0)),.own 5 3 1 ((q.1.marks).map encI),eV (q.1.low),.own 6 29 1 (gx q.1.nc q.1.hc),.own 8 29 1 (gx q.1.nw q.1.hw),eV (q.1.head),eV (q.1.added),fh (q.1.broken),.own 10 65 3 ((q.1.proof).map o_),eV 0,.pv (jI (q.1.model)),.pv (jI (q.1.core))])),(4,some (.e8 3 (j9 q.1.hl q.1.ll))),(7,some (.e8 3 (j9 q.1.hc q.1.cl))),(9,some (.e8 3 (j9 q.1.hw q.1.wl)))]:List (Nat×Option Ob))) (fun q:SR×Nat=>SJ n F A k fuel q.1 q.2) (fun q:SR×Nat=>(fuel - q.2)*(A.length+n+2)+(A.length - q.1.marks.length)+(n - (q.1.ll 0).length)) ((s1,0));(conv=>lhs;simp only[Nf.nN,Nf.all,di,reduceAdd,reduceSub]);(all_goals skip))
 ·exact Vb
 ·exact fp rfl (by(refine aD ?_;refine aC ?_;refine aG ?_;refine aD ?_;refine aC ?_;exact trivial)) (by(refine⟨.box _ rfl ?_,?_⟩;(iterate 3 refine aE ?_);refine aD ?_;refine aE ?_;refine aD ?_;(iterate 2 refine aE ?_);(iterate 3 refine aD ?_);refine aE ?_;refine aD ?_;(iterate 2 refine aG ?_);exact trivial;(iterate 3 refine aH ?_);(iterate 7 refine aF ?_);exact trivial)) rfl
 rintro⟨σ,met⟩ hσ
 simp only at hσ
 have R6:=hσ.si.inv
 have hmf:=hσ.mf
 obtain⟨IL,hp3⟩:=hσ.plen
 have yh:=hσ.lv.len R6
 have hP:=y4 n σ R6 (by omega)
 have YV:¬(20000:Int)≤(σ.proof.length:Int):=by omega
 simp only[gV,gW] at hP
 (refine AW.block ?_;refine zo ?_;refine ko ?_;refine oB ?_;refine a_.c_ 94 6 11 rfl rfl rfl rfl ?_;refine zb ?_;refine a_.iy rfl rfl rfl rfl ?_;refine a_.geq rfl rfl rfl rfl rfl ?_;refine ph ?_;refine uo ?_;(with_reducible apply a_.jU (hf:=hP));(with_reducible assumption);(iterate 3 exact rfl);exact aq;exact ak;(intro x_;exact rfl);exact rfl;exact al;(intro x_;exact al);(intro x_;exact rfl);exact rfl;(intro x_ pq);refine mB ?_;refine Aa ?_;refine AW.lq 14 ?_)
 obtain⟨τ,r⟩:=x_
 have hτ:=hσ.prop pq
 have l6:=hτ.si.inv
 have Gd:=pq.ext.marks
 have GP:(σ.ll 0).length≤(τ.ll 0).length:=by obtain⟨ys,e⟩:=pq.ext.ll;rw[e,bW];omega
 have DT:=pq.res
 have ke:=l6.ix.len
 have z8:=l6.nc
 have Ci:τ.value.length=n+1:=by rw[l6.val,j5]
 obtain⟨U7,_⟩:=hτ.plen
 have US:=hτ.lv.len l6
 simp only at hτ l6 Gd GP DT ke z8 Ci U7 US ⊢
 refine Stop.go ?_
 by_cases St:τ.broken=true∨(r≠ -1∧τ.marks=[])
 ·have Se:sg (F++τ.proof) Iq:=by
   rcases St with q|⟨q1,q2⟩
   ·exact hτ.si.jX.bad q
   ·rcases DT with ⟨q,_⟩|⟨j,hj,_,hf⟩
    ·exact absurd q q1
    ·exact hτ.si.jX.RN l6 q2 hj hf
  have yL:=I_ {τ with broken:=true} [] (by simp) (fun x hx=>by simp at hx) (by show τ.proof.length≤_;omega)
  have lG:=hτ.Vo (t:={τ with broken:=true,core:=[],proof:=τ.proof++ [([]:List Int).map fun y=> -y]}) Ti Se rfl rfl hτ.model
  simp only[gV,gW] at yL
  cases Ec:τ.broken with
  |true=>
   (refine Hq ?_;refine jf ?_;(iterate 3 refine a_.gg rfl rfl rfl rfl rfl rfl rfl ?_);(iterate 7 refine a_.Kj rfl rfl rfl rfl rfl rfl ?_);refine F5 ?_;refine kM ?_;refine AW.mu rfl rfl ?_;refine Hq ?_;(with_reducible apply a_.gn);(iterate 5 exact rfl);exact ag;(iterate 3 exact rfl);(with_reducible assumption);refine Rh ?_)
   (apply gL ((({τ with broken:=true,core:=[],proof:=τ.proof++ [([]:List Int).map fun y=> -y]},2):SR×Int)) (lG);((exact gk.one (.tmp rfl rfl)));((exact Al));((exact Q2));exact rfl)
  |false=>
   rw[Ec] at St
   obtain⟨Wf,EY⟩:=St.resolve_left (by simp)
   have Uo:decide (r≠ -1)=true:=by simpa using Wf
   have Wk:(τ.marks.length:Int)=0:=by rw[EY];rfl
   (refine Hq ?_;refine jf ?_;refine KD ?_;refine zl ?_;refine zm ?_;refine NF ?_;refine a_.c_ 92 4 4 rfl rfl rfl rfl ?_;refine zt ?_;refine zb ?_;refine zt ?_;refine a_.iy rfl rfl rfl rfl ?_;refine zt ?_;refine a_.eql rfl rfl rfl rfl rfl ?_;refine zl ?_;refine zT ?_;refine a_.gO rfl rfl rfl rfl rfl rfl ?_;refine kM ?_;refine zc ?_;refine Hq ?_;(with_reducible apply a_.gn);(iterate 5 exact rfl);exact ag;(iterate 3 exact rfl);(with_reducible assumption);refine Rh ?_)
   (apply gL ((({τ with broken:=true,core:=[],proof:=τ.proof++ [([]:List Int).map fun y=> -y]},2):SR×Int)) (lG);((exact gk.one (.tmp rfl rfl)));((exact Al));((exact Q2));exact rfl)
 ·have Ec:τ.broken=false:=by
   cases h:τ.broken with
   |true=>exact absurd (.inl h) St
   |false=>rfl
  rcases DT with ⟨rfl,J3⟩|⟨j,hj,rfl,hf⟩
  ·by_cases fm:τ.marks.length<A.length
   ·have t_:((τ.marks.length:Nat):Int).toNat<A.length:=by rw[Int.toNat_natCast];exact fm
    obtain⟨x,hx⟩:∃x,x=A[τ.marks.length]:=⟨_,rfl⟩
    have EH:A[τ.marks.length]=x:=hx.symm
    have LC:x∈A:=by rw[hx];exact cZ fm
    have sD:=hA x LC
    by_cases GN:x∈τ.ll 0
    ·have uD:=kC (s:=τ) l6.val l6.ix qR sD (r:=1) (if_pos GN).symm
     have u_:=CS τ aJ (by omega)
     have qP:=hτ.JJ J3 fm (by rw[EH];exact GN)
     simp only[gV,gW] at uD u_
     (refine RB ?_;refine zc ?_;refine ka ?_;refine tn ?_;refine zC ?_;refine aA ?_;refine zr ?_;refine kM ?_;(with_reducible apply AW.vU 25);(rw[← hx]);refine NY ?_;refine AW.jT rfl rfl ?_;refine ko ?_;refine F1 ?_;refine AW.mu rfl rfl ?_;refine qs ?_;refine tn ?_;refine zX (u_) ?_;refine mB ?_;refine a_.nil ?_;(iterate 3 refine gT ?_);refine ic ?_)
     exact⟨(hX τ,met),qP,by show(fuel - met)*(A.length+n+2)+(A.length - (τ.marks++ [_]).length)+(n - (τ.ll 0).length)<(fuel - met)*(A.length+n+2)+(A.length - σ.marks.length)+(n - (σ.ll 0).length);rw[bW,dC,← Gd];omega,fp rfl (by(refine aD ?_;refine aC ?_;refine aG ?_;refine aD ?_;refine aC ?_;exact trivial)) (by(refine⟨.box _ rfl ?_,?_⟩;(iterate 3 refine aE ?_);refine aD ?_;refine aE ?_;refine aD ?_;(iterate 2 refine aE ?_);(iterate 3 refine aD ?_);refine aE ?_;refine aD ?_;(iterate 2 refine aG ?_);exact trivial;(iterate 3 refine aH ?_);(iterate 7 refine aF ?_);exact trivial)) rfl⟩
    ·by_cases td: -x∈τ.ll 0
     ·have uD:=kC (s:=τ) l6.val l6.ix qR sD (r:= -1) (by rw[if_neg GN,if_pos td])
      have xK:=Jh n τ l6 x td
      obtain⟨s4,MF,f1,f2,f3⟩:=vN n τ l6 hτ.si.low
      simp only[gV,gW] at uD xK MF
      (refine RB ?_;refine zc ?_;refine ka ?_;refine tn ?_;refine zC ?_;refine aA ?_;refine zr ?_;refine kM ?_;(with_reducible apply AW.vU 25);(rw[← hx]);refine NY ?_;refine AW.mu rfl rfl ?_;refine uo ?_;refine zm ?_;(with_reducible apply a_.jU (hf:=xK));(with_reducible assumption);(iterate 3 exact rfl);exact aq;exact ak;(intro x_;exact rfl);exact rfl;exact al;(intro x_;exact al);(intro x_;exact rfl);exact rfl;(intro x_ pq);refine mB ?_;refine kM ?_;refine uo ?_;refine zX (MF) ?_;refine mB ?_;refine zd ?_;refine AW.lq 30 ?_)
      refine Stop.go ?_
      have Cv:=pq
      obtain⟨_,_,iR⟩:=Cv.core hτ.si fm LC td
      have QL:x_.length≤100000:=by
       have:=jN (n:=2*n+2) (l:=x_.map eQ) (by
        unfold List.Nodup
        rw[dB]
        exact(Cv.core hτ.si fm LC td).2.1.imp_of_mem fun {a b} ha hb qh e=>qh (gU (iR a ha) (iR b hb) (by rw[e]))) fun v hv=>by
        obtain⟨a,ha,rfl⟩:=bx.1 hv
        have:=hY (iR a ha)
        omega
       simp only[a6] at this
       omega
      have yL:=I_ s4 x_ QL (fun y hy=>by obtain⟨_,_,_⟩:=iR y hy;omega) (by rw[f1];omega)
      have lG:=hτ.V2 (t:={s4 with core:=x_,proof:=s4.proof++ [x_.map fun y=> -y]}) Ti Cv fm LC td (by show s4.proof++_=_;rw[f1]) rfl (by show s4.model=_;rw[f2];exact hτ.model)
      simp only[gV,gW] at yL
      (refine xy ?_;refine zm ?_;refine zX (yL) ?_;refine mB ?_;refine kQ ?_;(iterate 3 refine iX ?_);refine Bf ?_;refine gH ?_;refine nt ?_)
      (apply gL ((({s4 with core:=x_,proof:=s4.proof++ [x_.map fun y=> -y]},2):SR×Int)) (lG);((exact gk.one (.tmp rfl rfl)));((exact Al));((exact Q2));exact rfl)
     ·have uD:=kC (s:=τ) l6.val l6.ix qR sD (r:=0) (by rw[if_neg GN,if_neg td])
      obtain⟨g1,g2,g3⟩:=sD
      have RX:=wP τ x g1 aJ aJ (by rw[l6.lvl,Ci]) (by rw[l6.od,Ci]) aJ (by omega)
      have qP:=fun h:Value=>hτ.UC J3 fm (by rw[EH];exact hA x LC) (by rw[EH];exact GN) (by rw[EH];exact td) h
      rw[EH] at qP
      have hlen:=(qP (.bool true)).si.inv.ix.len
      rw[jA,bW,dC] at hlen
      simp only[gV,gW] at uD RX
      (refine RB ?_;refine zc ?_;refine ka ?_;refine tn ?_;refine zC ?_;refine aA ?_;refine zr ?_;refine kM ?_;(with_reducible apply AW.vU 25);(rw[← hx]);refine NY ?_;refine AW.jT rfl rfl ?_;refine ko ?_;refine F1 ?_;refine AW.jT rfl rfl ?_;refine qs ?_;refine tk ?_;(with_reducible apply a_.jU (hf:=RX));(with_reducible assumption);(iterate 3 exact rfl);exact aq;exact ak;(intro x_;exact rfl);exact rfl;exact al;(intro x_;exact al);(intro x_;exact rfl);exact rfl;(intro x_ pq);refine mB ?_;refine a_.nil ?_;(iterate 3 refine gT ?_);refine ic ?_)
      exact⟨(fF (hX τ) x (-1) x_,met),qP x_,by show(fuel - met)*(A.length+n+2)+(A.length - (τ.marks++ [_]).length)+(n - ((fF (hX τ) x (-1) x_).ll 0).length)<(fuel - met)*(A.length+n+2)+(A.length - σ.marks.length)+(n - (σ.ll 0).length);rw[jA,bW,bW,dC,dC,← Gd];have:(hX τ).ll 0=τ.ll 0:=rfl;rw[this];omega,fp rfl (by(refine aD ?_;refine aC ?_;refine aG ?_;refine aD ?_;refine aC ?_;exact trivial)) (by(refine⟨.box _ rfl ?_,?_⟩;(iterate 3 refine aE ?_);refine aD ?_;refine aE ?_;refine aD ?_;(iterate 2 refine aE ?_);(iterate 3 refine aD ?_);refine aE ?_;refine aD ?_;(iterate 2 refine aG ?_);exact trivial;(iterate 3 refine aH ?_);(iterate 7 refine aF ?_);exact trivial)) rfl⟩
   ·obtain⟨k0,q1,q2,q3,_⟩:=id hτ.si.low
    have AP:=Kr τ k0 q1 aJ (by omega)
    by_cases QN:kl τ.value k0=τ.value.length
    ·rw[if_pos QN] at AP
     have DW:=hτ.full q1 QN
     have qW:fR n {τ with low:=(kl τ.value k0:Int),model:=τ.value}:={hn:=l6.hn,ix:=l6.ix,val:=l6.val,lvl:=l6.lvl,od:=l6.od,hd:=l6.hd,nD:=l6.nD,ml:=l6.ml,cls:=l6.cls,fresh:=l6.fresh,nc:=l6.nc,nw:=l6.nw,wt:=l6.wt,qL:=l6.qL,qH:=l6.qH,two:=l6.two,pc:=l6.pc,pY:=l6.pY}
     have rF:vf n {τ with low:=(kl τ.value k0:Int),model:=τ.value}:=⟨n+1,by show(kl τ.value k0:Int)=_;rw[QN,Ci],by omega,by omega,fun u h1 h2=>DW u h1 aJ⟩
     obtain⟨s4,MF,f1,f2,f3⟩:=vN n _ qW rF
     have lG:=hτ.TH (t:=s4) Ti Ec J3 aJ DW f1 (by rw[f3];exact hτ.core) f2
     simp only[gV,gW] at AP MF
     have UI:0<(τ.value.map encI).length:=by rw[a6];omega
     (refine RB ?_;refine zk ?_;refine uK ?_;refine zX (AP) ?_;refine mB ?_;refine pz ?_;refine ka ?_;refine a_.eql rfl rfl rfl rfl rfl ?_;refine th ?_;refine ko ?_;(iterate 2 refine a_.fH rfl rfl rfl ?_);refine Q9 ?_;refine a_.c_ 92 0 0 rfl rfl rfl rfl ?_;refine zb ?_;(with_reducible apply a_.inline (hf:=Tryz.func43));(with_reducible assumption);(iterate 10 exact rfl);intro g_ fD fB;refine Q0 ?_;refine zq ?_;refine pz ?_;refine vh ?_;(with_reducible apply a_.Fk);(iterate 6 exact rfl);(with_reducible assumption);refine aB ?_;refine zd ?_;refine GS ?_;refine zq ?_;refine a_.PI rfl rfl rfl rfl rfl ?_;refine Q0 ?_;refine a_.fT rfl rfl rfl ?_;(with_reducible apply a_.fI);exact rfl;exact ah;(iterate 9 exact rfl);exact aa;refine Q0 ?_;refine tH ?_;refine zp rfl rfl ?_;refine IQ ?_;refine a_.c_ 94 8 13 rfl rfl rfl rfl ?_;(with_reducible apply a_.gn);(iterate 5 exact rfl);exact ag;(iterate 3 exact rfl);(with_reducible assumption);refine mw ?_;refine AW.lq 11 ?_)
     refine Stop.go ?_
     refine AW.Pc 11 rfl ?_
     refine aB ?_
     (refine xy ?_;refine zX (MF) ?_;refine mB ?_;refine zd ?_;refine zq ?_;refine xv ?_;(iterate 2 refine iX ?_);refine Bf ?_;refine gH ?_;refine nt ?_)
     (apply gL (((s4,1):SR×Int)) (lG);((exact gk.one (.tmp rfl rfl)));((exact Al));((exact Q2));exact rfl)
    ·rw[if_neg QN] at AP
     obtain⟨v,e,g1,g2,g3,g4,g5,Yg⟩:=hτ.free q1 QN
     rw[e] at AP
     have H6:¬(v:Int)=0:=by omega
     have RX:=wP {τ with low:=(v:Int)} (-(v:Int)) aJ aJ (by show _<(τ.value.length:Int)∧_<(τ.value.length:Int);omega) (by show τ.level.length=τ.value.length;rw[l6.lvl,Ci]) (by show τ.reason.length=τ.value.length;rw[l6.od,Ci]) (by show(τ.ll 0).length≤_;omega) (by show τ.marks.length≤_;omega)
     have qP:=fun h:Value=>Yg.VY J3 (by show A.length≤τ.marks.length;omega) g1 g2 g3 g4 g5 h
     have hlen:=(qP (.bool true)).si.inv.ix.len
     rw[jA,bW,dC] at hlen
     have hlen:(τ.ll 0).length+1≤n:=hlen
     simp only[gV,gW] at AP RX
     (refine RB ?_;refine zk ?_;refine uK ?_;refine zX (AP) ?_;refine mB ?_;refine pz ?_;refine ka ?_;refine pN ?_;refine uP ?_;refine qs ?_;refine tn ?_;refine FR ?_;(with_reducible apply a_.jU (hf:=RX));(with_reducible assumption);(iterate 3 exact rfl);exact aq;exact ak;(intro x_;exact rfl);exact rfl;exact al;(intro x_;exact al);(intro x_;exact rfl);exact rfl;(intro x_ pq);refine mB ?_;refine a_.nil ?_;(iterate 2 refine gT ?_);refine ic ?_)
     exact⟨(fF (hX {τ with low:=(v:Int)}) (-(v:Int)) (-1) x_,met),qP x_,by show(fuel - met)*(A.length+n+2)+(A.length - (τ.marks++ [_]).length)+(n - ((fF (hX {τ with low:=(v:Int)}) (-(v:Int)) (-1) x_).ll 0).length)<(fuel - met)*(A.length+n+2)+(A.length - σ.marks.length)+(n - (σ.ll 0).length);rw[jA,bW,bW,dC,dC,← Gd];have:(hX {τ with low:=(v:Int)}).ll 0=τ.ll 0:=rfl;rw[this];omega,fp rfl (by(refine aD ?_;refine aC ?_;refine aG ?_;refine aD ?_;refine aC ?_;exact trivial)) (by(refine⟨.box _ rfl ?_,?_⟩;(iterate 3 refine aE ?_);refine aD ?_;refine aE ?_;refine aD ?_;(iterate 2 refine aE ?_);(iterate 3 refine aD ?_);refine aE ?_;refine aD ?_;(iterate 2 refine aG ?_);exact trivial;(iterate 3 refine aH ?_);(iterate 7 refine aF ?_);exact trivial)) rfl⟩
  ·have EY:0<τ.marks.length:=by
    apply Nat.pos_of_ne_zero
    intro h
    exact St (.inr ⟨by omega,bj h⟩)
   have Wk:¬(τ.marks.length:Int)=0:=by omega
   have Uo:decide ((j:Int)≠ -1)=true:=by simp
   have z6:=CI n τ l6 j hj hf EY (by omega)
   simp only[gV,gW] at z6
   (refine Hq ?_;refine jf ?_;refine Bt ?_;refine zm ?_;refine Bt ?_;refine a_.neq rfl rfl rfl rfl rfl ?_;refine Bt ?_;refine zm ?_;refine Tu ?_;refine a_.c_ 94 0 0 rfl rfl rfl rfl ?_;refine zl ?_;refine a_.c_ 92 4 4 rfl rfl rfl rfl ?_;refine Cw ?_;refine a_.iy rfl rfl rfl rfl ?_;refine zl ?_;refine a_.eql rfl rfl rfl rfl rfl ?_;refine Bt ?_;refine a_.jz rfl rfl rfl rfl rfl rfl ?_;refine a_.CH rfl rfl (by assumption) rfl rfl rfl rfl ?_;refine kM ?_;refine zk ?_;refine ka ?_;refine a_.neq rfl rfl rfl rfl rfl ?_;refine kM ?_;refine AW.mu rfl rfl ?_;refine uo ?_;refine zm ?_;(with_reducible apply a_.jU (hf:=z6));(with_reducible assumption);(iterate 3 exact rfl);exact aq;exact ak;(intro x_;exact rfl);exact rfl;exact al;(intro x_;exact al);(intro x_;exact rfl);exact rfl;(intro x_ pq);refine mB ?_;refine Ox ?_;refine AW.lq 19 ?_)
   refine Stop.go ?_
   obtain⟨v,l,tz⟩:=x_
   obtain⟨Cf,RL⟩:=pq
   simp only at Cf RL ⊢
   obtain⟨O4,ht,_⟩:=RL.lvl l6 EY
   obtain⟨k0,q1,q2,q3,_⟩:=id hτ.si.low
   obtain⟨p0,rest0,ep,WU,_,_,pnd,pl2,_⟩:=RL.back l6 ⟨ht,‹_›⟩
   have ER:=RL.lits l6
   obtain⟨u,hu⟩:∃u,u=gh ({τ with hc:=eZ τ.hc τ.nc v,cl:=eZ τ.cl τ.nc l}:SR) tz.toNat:=⟨_,rfl⟩
   have O5:=BI n ({τ with hc:=eZ τ.hc τ.nc v,cl:=eZ τ.cl τ.nc l}:SR) tz.toNat ht qR Ci l6.ix (fun m hm=>by have:=l6.nD m hm;have:=l6.hd;show 0≤m∧m.toNat≤(τ.ll 0).length;omega) (by show 0≤τ.low∧τ.low≤1000000;omega)
   rw[← hu,Int.toNat_of_nonneg O4] at O5
   have KH:u.cl u.nc=l:=by rw[hu];exact eW _ _ _
   have VC:u.hc u.nc=v:=by rw[hu];exact eW _ _ _
   have TN:u.nc=τ.nc:=by rw[hu];rfl
   have Wr:(u.ll 0).length≤1000000:=by
    have e:u.ll 0=(τ.ll 0).take (τ.marks[tz.toNat]).toNat:=by rw[hu];exact(mC l6 ht).1
    rw[e,dI];omega
   have Yv:u.marks.length≤1000000:=by
    have e:u.marks=τ.marks.take tz.toNat:=by rw[hu];rfl
    rw[e,dI];omega
   have Vq:l.length≤1000000:=by
    have:=jN (n:=2*n+2) (l:=l.map eQ) (by
     unfold List.Nodup
     rw[dB]
     exact pnd.imp_of_mem fun {a b} ha hb qh e=>qh (gU (ER a ha) (ER b hb) (by rw[e]))) fun v hv=>by
     obtain⟨a,ha,rfl⟩:=bx.1 hv
     have:=hY (ER a ha)
     omega
    simp only[a6] at this
    omega
   have has:=Gy n u qR (by rw[KH,ep];simp) (by rw[KH];exact Vq) (by rw[KH];exact ER) (by rw[KH];exact pnd) (by rw[hu];show(zeroV τ.value _).length=_;rw[qp];exact Ci) (by rw[hu];exact l6.lvl) (by rw[hu];exact l6.od) Wr Yv (by rw[hu];show τ.proof.length≤_;omega) (by rw[TN];omega) (by rw[hu];exact l6.nw) (fun x hx=>by rw[hu];have:=l6.Fj hx;show(τ.wl _).length≤_;omega)
   rw[VC] at has
   simp only[gV,gW] at O5 has
   (refine uo ?_;refine zm ?_;refine zX (O5) ?_;refine mB ?_;refine zd ?_;refine xy ?_;refine zm ?_;(with_reducible apply a_.jU (hf:=has));(with_reducible assumption);(iterate 3 exact rfl);exact aq;exact ak;(intro x_;exact rfl);exact rfl;exact al;(intro x_;exact al);(intro x_;exact rfl);exact rfl;(intro x_ pq);refine mB ?_;refine zd ?_;refine AW.lq 21 ?_)
   refine Stop.go ?_
   obtain⟨M3,ZD,Xi,Sr,jl⟩:=hτ.rI RL EY hj hf hk aJ (by rw[← hu];exact pq)
   by_cases Bj:fuel≤met+1
   ·have WC:(fuel:Int)≤(met:Int)+1:=by omega
    obtain⟨s4,MF,f1,f2,f3⟩:=vN n x_ M3.inv M3.low
    have lG:=M3.VV (t:=s4) jl Ti aJ f1 (by rw[f3];exact Sr) (by rw[f2];exact Xi)
    simp only[gV,gW] at MF
    (refine ta ?_;refine zj ?_;refine uO ?_;(iterate 2 refine zm ?_);refine a_.geq rfl rfl rfl rfl rfl ?_;refine na ?_;refine AW.exit ?_;(iterate 2 refine mQ rfl ?_);refine jY ?_;refine hZ ?_;refine ic ?_;refine uo ?_;refine zX (MF) ?_;refine mB ?_;refine zd ?_;refine zq ?_;refine kQ ?_;refine nt ?_)
    (apply gL (((s4,0):SR×Int)) (lG);((exact gk.one (.tmp rfl rfl)));((exact Al));((exact Q2));exact rfl)
   ·have WC:¬(fuel:Int)≤(met:Int)+1:=by omega
    have RE:(fuel - (met+1))*(A.length+n+2)+(A.length - x_.marks.length)+(n - (x_.ll 0).length)<(fuel - met)*(A.length+n+2)+(A.length - σ.marks.length)+(n - (σ.ll 0).length):=by
     obtain⟨d,hd⟩:∃d,fuel - met=d+1:=⟨fuel - met - 1,by omega⟩
     rw[show fuel - (met+1)=d by omega,hd,Nat.add_mul,Nat.one_mul]
     omega
    (refine ta ?_;refine zj ?_;refine uO ?_;(iterate 2 refine zm ?_);refine a_.geq rfl rfl rfl rfl rfl ?_;refine zd ?_;refine zk ?_;refine AW.skip ?_;(iterate 2 refine gT ?_);refine ic ?_)
    exact⟨(x_,met+1),⟨M3,ZD,Xi,Sr,by omega,jl⟩,RE,fp rfl (by(refine aD ?_;refine aC ?_;refine aG ?_;refine aD ?_;refine aC ?_;exact trivial)) (by(refine⟨.box _ rfl ?_,?_⟩;(iterate 3 refine aE ?_);refine aD ?_;refine aE ?_;refine aD ?_;(iterate 2 refine aE ?_);(iterate 3 refine aD ?_);refine aE ?_;refine aD ?_;(iterate 2 refine aG ?_);exact trivial;(iterate 3 refine aH ?_);(iterate 7 refine aF ?_);exact trivial)) rfl⟩
end Go.Ab
/- The solver:values,core and proof told,walked. -/
namespace Go.Ab
open Go Go.Proofs
open Nat (reduceAdd reduceSub)
set_option maxRecDepth 20000
set_option maxHeartbeats 8000000
attribute [local irreducible] gx AW a_ gb fq AR fz fk fJ fX kp lh eQ
theorem IH (s:SR) (v:Nat) (hv:0<v):og Tryz.prog 25 11 (gV s) [.ptr 0 0,eV v] (gV s) (fh (decide (0<s.model.getD v 0))):=by
 simp only[gV,gW]
 by_cases h:v<s.model.length
 ·have hl:(v:Int).toNat<s.model.length:=by omega
  have YS:(v:Int)<(s.model.length:Int):=by omega
  have e:s.model.getD v 0=s.model[(v:Int).toNat]:=fy hl
  rw[e]
  refine og.enter (n:=26) Tryz.func25 rfl rfl rfl rfl rfl (by decide) rfl rfl fun g fD fB=>?_;refine sF ?_
  (refine Sj ?_;refine Rf ?_;refine a_.c_ 94 8 13 rfl rfl rfl rfl ?_;refine zt ?_;refine zb ?_;refine zN ?_;refine aA ?_;refine zt ?_;refine zr ?_;refine zt ?_;refine a_.gtr rfl rfl rfl rfl rfl ?_;refine zT ?_;refine kQ ?_)
  (apply iT;((exact gk.one (.tmp rfl rfl)));((refine DD ?_;exact ye));((exact Te));exact rfl)
 ·have YS:¬(v:Int)<(s.model.length:Int):=by omega
  have e:s.model.getD v 0=0:=by rw[c8,cE aJ];rfl
  rw[e]
  refine og.enter (n:=26) Tryz.func25 rfl rfl rfl rfl rfl (by decide) rfl rfl fun g fD fB=>?_;refine sF ?_
  (refine Sj ?_;(iterate 8 refine a_.oo rfl rfl rfl rfl rfl rfl (by with_reducible assumption) ?_);refine zF ?_;refine kQ ?_)
  (apply iT;((exact gk.one (.tmp rfl rfl)));((refine DD ?_;exact ye));((exact Te));exact rfl)
theorem Mf (s:SR) (hl:s.core.length≤1000000):og Tryz.prog 26 11 (gV s) [.ptr 0 0] (gV s) (.pv (jI s.core)):=by
 have hc:=tw s.core hl
 simp only[gV,gW]
 refine og.enter (n:=8) Tryz.func26 rfl rfl rfl rfl rfl (by decide) rfl rfl fun g fD fB=>?_;refine sF ?_
 (refine zq ?_;refine uO ?_;refine oB ?_;refine a_.c_ 94 9 14 rfl rfl rfl rfl ?_;refine zb ?_;refine zP (hc) ?_;refine kQ ?_)
 (apply iT;((exact gk.one (.tmp rfl rfl)));((refine aG ?_;exact ye));((exact Te));exact rfl)
theorem Cy (l:List Int) (hl:l.length≤1000000):Fn Tryz.prog 59 [.agg [.pv (.lit (.int .i64 1)),.pv (jI l),.pv (.lit (.int .i64 0))]] (.agg [.pv (.lit (.int .i64 1)),.pv (jI l),.pv (.lit (.int .i64 0))]):=by
 have hc:=tw l hl
 refine Fn.enter (n:=8) Tryz.func59 rfl rfl rfl rfl rfl (by decide) fun g fD fB=>?_;refine aB ?_
 (refine zq ?_;refine a_.box rfl rfl rfl rfl ?_;refine Q0 ?_;refine a_.rM rfl rfl rfl rfl ?_;refine mw ?_;refine zq ?_;refine rH ?_;refine zP (hc) ?_;refine a_.c_ 65 1 1 rfl rfl rfl rfl ?_;(with_reducible apply a_.gn);(iterate 5 exact rfl);exact ag;(iterate 3 exact rfl);(with_reducible assumption);refine mw ?_;refine zq ?_;refine zL ?_;refine Q0 ?_;refine zB ?_;refine mw ?_;refine AW.ret ?_)
 (apply e6;(exact gk.one (.cell rfl rfl rfl rfl));(refine Le.rn ?_;refine lY.cons ?_ ?_;(with_reducible exact Le.pv _);refine lY.cons ?_ ?_;(with_reducible exact Le.pv _);refine lY.cons ?_ ?_;(with_reducible exact Le.pv _);exact lY.nil))
abbrev Hf (s:SR):List AV:=[.own 1 3 1 (s.value.map encI),.own 2 3 1 (s.level.map encI),.own 3 3 1 (s.reason.map encI),.pv (.lit (s.hl 0)),.own 5 3 1 (s.marks.map encI),eV s.low,.own 6 29 1 (gx s.nc s.hc),.own 8 29 1 (gx s.nw s.hw),eV s.head,eV s.added,fh s.broken,.pv (.slice 3 (s.proof.map o_)),eV 0,.pv (jI s.model),.pv (jI s.core)]
abbrev Oe (s:SR):List (Nat×Option Ob):=[(0,some (.box (Hf s))),(1,some .row),(2,some .row),(3,some .row),(4,some (.e8 3 (j9 s.hl s.ll))),(5,some .row),(6,some .row),(7,some (.e8 3 (j9 s.hc s.cl))),(8,some .row),(9,some (.e8 3 (j9 s.hw s.wl))),(10,some .row)]
theorem Iv (s:SR) (hp:s.proof.length≤100000) (hl:∀l∈s.proof,l.length≤1000000):og Tryz.prog 27 11 (gV s) [.ptr 0 0] (Oe s) (.pv (.slice 3 (s.proof.map o_))):=by
 simp only[gV,gW,Oe,Hf]
 refine og.enter (n:=24) Tryz.func27 rfl rfl rfl rfl rfl (by decide) rfl rfl fun g fD fB=>?_;refine sF ?_
 refine AW.Pc 10 rfl ?_
 refine aB ?_
 (refine zq ?_;refine uO ?_;refine a_.assign rfl rfl rfl ?_;refine mw ?_;refine zq ?_;refine pz ?_;refine ko ?_;refine oB ?_;refine a_.c_ 94 6 11 rfl rfl rfl rfl ?_;refine zb ?_;refine n_ ?_)
 (refine Q0 ?_;apply AW.gN [11,10,3,2,1000] [0,1,2,3,4,5,6,7,8,9] (fun k:Nat=>([(4,.own 11 65 3 ((s.proof.take k).map o_)),(12,eV k)]:List (Nat×AV))) (fun k:Nat=>([(11,some .row)]:List (Nat×Option Ob))) (fun k:Nat=>k≤s.proof.length) (fun k:Nat=>s.proof.length - k) (0);(conv=>lhs;simp only[Nf.nN,Nf.all,di,reduceAdd,reduceSub]);(all_goals skip))
 ·exact bm _
 ·exact fp rfl (by(refine⟨.jt _ _ _ rfl rfl,?_⟩;(iterate 2 refine aD ?_);refine aG ?_;refine aC ?_;refine aD ?_;refine aC ?_;exact trivial)) (by(refine⟨.iF rfl,?_⟩;refine⟨.box _ rfl ?_,?_⟩;(iterate 3 refine aE ?_);refine aD ?_;refine aE ?_;refine aD ?_;(iterate 2 refine aE ?_);(iterate 3 refine aD ?_);refine aG ?_;refine aD ?_;(iterate 2 refine aG ?_);exact trivial;(iterate 3 refine aF ?_);refine aH ?_;(iterate 2 refine aF ?_);refine aH ?_;refine aF ?_;refine aH ?_;exact trivial)) rfl
 rintro k hk
 by_cases fm:k<s.proof.length
 ·have hc:=Cy s.proof[k] (hl _ (cZ fm))
  have GP:=dN k s.proof
  have e:((s.proof.take (k+1)).map o_)=(s.proof.take k).map o_++ [o_ s.proof[k]]:=by
   rw[dp fm,cV];rfl
  (refine zq ?_;refine zs ?_;refine zd ?_;refine Q5 ?_;refine ko ?_;refine aA ?_;refine a_.zK rfl rfl rfl rfl ?_;refine Q0 ?_;refine a_.rM rfl rfl rfl rfl ?_;refine Q0 ?_;refine zB ?_;refine mw ?_;refine AW.region ?_;refine a_.fT rfl rfl rfl ?_;refine a_.j7 rfl rfl rfl ?_;refine zL ?_;refine Q0 ?_;(with_reducible apply a_.N7 (hf:=hc));exact rfl;exact rfl;exact aj;exact rfl;refine a_.D_ rfl rfl rfl rfl rfl rfl rfl rfl rfl rfl ?_;refine Q0 ?_;(with_reducible apply a_.fI);exact rfl;exact ah;(iterate 9 exact rfl);exact aa;refine Q0 ?_;refine yB ?_;refine rj ?_)
  exact⟨k+1,by omega,by omega,fp rfl (by(refine⟨.e9 (by first|rfl|(rw[e])) rfl,?_⟩;refine⟨.fg (by first|rfl|(rw[e])),?_⟩;refine⟨.fg (by first|rfl|(rw[e])),?_⟩;refine⟨.ib (by first|rfl|(rw[e])),?_⟩;refine aC ?_;refine⟨.fg (by first|rfl|(rw[e])),?_⟩;refine aC ?_;exact trivial)) (by(refine aF ?_;refine⟨.box _ rfl ?_,?_⟩;refine⟨.e9 (by first|rfl|(rw[e])) rfl,?_⟩;refine⟨.e9 (by first|rfl|(rw[e])) rfl,?_⟩;refine⟨.e9 (by first|rfl|(rw[e])) rfl,?_⟩;refine⟨.fg (by first|rfl|(rw[e])),?_⟩;refine⟨.e9 (by first|rfl|(rw[e])) rfl,?_⟩;refine⟨.fg (by first|rfl|(rw[e])),?_⟩;refine⟨.e9 (by first|rfl|(rw[e])) rfl,?_⟩;refine⟨.e9 (by first|rfl|(rw[e])) rfl,?_⟩;refine⟨.fg (by first|rfl|(rw[e])),?_⟩;refine⟨.fg (by first|rfl|(rw[e])),?_⟩;refine⟨.fg (by first|rfl|(rw[e])),?_⟩;refine⟨.ib (by first|rfl|(rw[e])),?_⟩;refine⟨.fg (by first|rfl|(rw[e])),?_⟩;refine⟨.ib (by first|rfl|(rw[e])),?_⟩;refine⟨.ib (by first|rfl|(rw[e])),?_⟩;exact trivial;(iterate 3 refine aF ?_);refine⟨.e8 rfl (by first|rfl|(rw[e])),?_⟩;(iterate 2 refine aF ?_);refine⟨.e8 rfl (by first|rfl|(rw[e])),?_⟩;refine aF ?_;refine⟨.e8 rfl (by first|rfl|(rw[e])),?_⟩;exact trivial)) rfl⟩
 ·obtain rfl:k=s.proof.length:=by omega
  rw[da]
  (refine lU ?_;refine vh ?_;refine tH ?_)
  (apply iT;((exact gk.one (.tmp rfl rfl)));((refine⟨.zS rfl (by rfl),?_⟩;exact ye));((refine⟨.box _ rfl ?_,?_⟩;(iterate 3 refine aE ?_);refine DD ?_;refine aE ?_;refine DD ?_;(iterate 2 refine aE ?_);(iterate 3 refine aD ?_);refine aG ?_;refine DD ?_;(iterate 2 refine aG ?_);exact trivial;(iterate 3 refine aF ?_);refine aH ?_;(iterate 2 refine aF ?_);refine aH ?_;refine aF ?_;refine aH ?_;refine⟨.iF rfl,?_⟩;exact trivial));exact rfl)
end Go.Ab
/- A formula solved:a new solver,its clauses,the search,walked. -/
namespace Go.Ab
open Go Go.Proofs
open Nat (reduceAdd reduceSub)
set_option maxRecDepth 20000
set_option maxHeartbeats 8000000
section
variable {P:Program} {g:eR} {δ:DS} {Q:Exit→DS→Prop}
theorem AW.Dl (m:Nat) {c:Code} (h:Nat.ble δ.nx m=true) (hK:AW P g c Q {δ with nx:=m}):AW P g c Q δ:=fun κ a w r=>
 hK κ a w {n:=r.n,dfr:=r.dfr,env:=r.env,obj:=r.obj,inj:=r.inj,lo:=r.lo,nx:=fun i hi=>Nat.lt_of_lt_of_le (r.nx i hi) (by simpa using h),wt:=r.wt,below:=r.below,hB:=r.hB,N0:=r.N0,fr:=r.fr,kc:=r.kc}
theorem AW.Nk (i j:Nat) {c:Code} (i_:g.wt=none) (hi:aY i δ.nx=true) (hj:aY j δ.nx=true) (hK:AW P g c Q (δ.sw i j)):AW P g c Q δ:=AW.fp (pw.sw i j i_ hi hj (fun κ a w r=>⟨κ,r⟩)) hK
end
theorem Fx (h:Nat→Value):gx 0 h=[]:=rfl
theorem JD (n:Nat):bZ n [PV.lit (.slice none 0 0)]=gx n (fun _=> .slice none 0 0):=by
 unfold gx
 symm
 rw[List.eq_replicate_iff]
 refine⟨by simp,fun x hx=>?_⟩
 obtain⟨_,_,rfl⟩:=bx.1 hx
 rfl
def oS (n:Nat) (m:List Int):List Bool:=(bc n).map fun i=>decide (0<m.getD (i+1) 0)
def fv (n:Nat) (F:List (List Int)) (A:List Int) (q:Int×List Bool×List Int×List (List Int)):Prop:=∃t,kn n F A 10000 t q.1∧q.2.1=oS n t.model∧q.2.2.1=t.core∧q.2.2.2=t.proof
attribute [local irreducible] gx AW a_ gb fq AR fz fk fJ fX kp lh y9 eQ
theorem AM {n:Nat} (hn:n≤20000) {l:List Int} (jl:l.Nodup) (hl:∀x∈l,Lit n x):l.length≤1000000:=by
 have:=jN (n:=2*n+2) (l:=l.map eQ) (by
  unfold List.Nodup
  rw[dB]
  exact jl.imp_of_mem fun {a b} ha hb qh e=>qh (gU (hl a ha) (hl b hb) (by rw[e]))) fun v hv=>by
  obtain⟨a,ha,rfl⟩:=bx.1 hv
  have:=hY (hl a ha)
  omega
 simp only[a6] at this
 omega
theorem kn.CR {n:Nat} {F:List (List Int)} {A:List Int} {fuel:Nat} {t:SR} {k:Int} (h:kn n F A fuel t k):t.core.length≤1000000:=by
 rcases h.res with ⟨_,_,_,e,_⟩|⟨_,_,_,_,_,e1,e2⟩|⟨_,_,e,_⟩
 ·rw[e];simp
 ·exact AM h.hn e1 e2
 ·rw[e];simp
theorem kn.Tc {n:Nat} {F:List (List Int)} {A:List Int} {fuel:Nat} {t:SR} {k:Int} (h:kn n F A fuel t k):∀l∈t.proof,l.length≤1000000:=fun l hl=>
 AM h.hn (h.nd l hl) (h.lits l (bX.2 (.inr hl)))
theorem qo (n:Nat) (F:List (List Int)) (A:List Int) (hn:n≤20000) (hF:F.length≤50000) (hc:∀c∈F,c.length≤1000000∧∀x∈c,Lit n x) (hA:∀x∈A,Lit n x) (WY:A.length≤50000):tP Tryz.prog 9 0 [] [F7 (n:Nat) F,.pv (jI A)] (fun q:Int×List Bool×List Int×List (List Int)=>fv n F A q) (fun _=>[]) (fun q=> .gX [eV q.1,.pv (IK q.2.1),.pv (jI q.2.2.1),.pv (.slice 3 (q.2.2.2.map o_))]):=by
 have uA:¬(n:Int)<0:=by omega
 have hn2:¬(20000:Int)<(n:Int):=by omega
 have hz:bZ ((n:Int)+1).toNat [PV.lit (.int .i64 0)]=(lz n).value.map encI:=by
  rw[show((n:Int)+1).toNat=n+1 by omega]
  show _=(bZ (n+1) 0).map encI
  rw[List.map_replicate];rfl
 have hw:bZ (2*(n:Int)+2).toNat [PV.lit (.slice none 0 0)]=gx (lz n).nw (lz n).hw:=by
  rw[show(2*(n:Int)+2).toNat=2*n+2 by omega]
  exact JD _
 have Ar:gx (lz n).nc (lz n).hc=[]:=Fx _
 refine tP.Oq (n:=54) Tryz.func9 rfl rfl rfl rfl rfl (by decide) rfl (fun _=>rfl) fun g fD fB=>?_;refine sF ?_
 (refine zq ?_;refine a_.box rfl rfl rfl rfl ?_;refine Q0 ?_;(iterate 4 refine za ?_);refine zd ?_;refine ko ?_;refine xB ?_;(with_reducible apply a_.inline (hf:=Tryz.func22));(with_reducible assumption);(iterate 10 exact rfl);intro g_ fD fB;refine Q0 ?_;refine y_ ?_;refine zs ?_;refine zm ?_;refine pd ?_;refine a_.gtr rfl rfl rfl rfl rfl ?_;refine a_.gO rfl rfl rfl rfl rfl rfl ?_;refine ph ?_;refine ka ?_;refine a_.mul rfl rfl rfl rfl rfl aJ ?_;refine zj ?_;refine TE ?_;refine a_.Ag 94 [7] rfl rfl rfl rfl rfl rfl rfl rfl rfl ?_;refine Q0 ?_;refine a_.box rfl rfl rfl rfl ?_;refine Q0 ?_;refine a_.oQ rfl rfl rfl ?_;refine zd ?_;refine zo ?_;refine AW.gv [0,1,2,4,5,7,8] [13] rfl (by assumption) aI aI rfl ?_;show a_ .held _ _ _ [_,_,_,_,_,_,_] _ _;refine FU ?_;refine zj ?_;refine zm ?_;refine zj ?_;refine zm ?_;refine zj ?_;refine Q4 ?_;intro k_ iL;refine Q0 ?_;apply AR.cut [8,7,5,4,2,1,0,3,6,9];intro oK;apply AR.cut [8,7,5,4,2,1,0,3,9];intro tS;apply AR.cut [8,7,5,4,2,1,0,6,9];intro sd;apply AR.cut [8,7,5,4,2,1,0,3,6];intro sU;(refine AR.s9 (i:=3) (j:=6) (m:=9) rfl aI rfl rfl rfl ?_ ?_ ?_<;>intro g_ b_ f_);refine uE ?_;(refine AR.gP (i:=6) (j:=9) rfl aI rfl rfl ?_ ?_<;>intro g_ b_ f_);refine uE ?_;refine aB ?_;refine u9 ?_;exact AR.perm aI sU;refine uE ?_;refine aB ?_;exact Gq;refine uE ?_;(refine AR.gP (i:=3) (j:=9) rfl aI rfl rfl ?_ ?_<;>intro g_ b_ f_);refine uE ?_;refine aB ?_;refine Lu ?_;refine AR.meet sU aI (fun g_=>fp rfl ?_ ?_ rfl);(iterate 34 refine aC ?_);exact trivial;(iterate 2 refine aF ?_);exact SV;refine uE ?_;refine aB ?_;refine u9 ?_;exact AR.perm aI sd;refine uE ?_;(refine AR.gP (i:=3) (j:=6) rfl aI rfl rfl ?_ ?_<;>intro g_ b_ f_);refine uE ?_;refine aB ?_;refine Lu ?_;refine AR.meet tS aI (fun g_=>fp rfl ?_ ?_ rfl);(iterate 34 refine aC ?_);exact trivial;(iterate 2 refine aF ?_);exact SV;refine uE ?_;refine aB ?_;refine Lu ?_;refine AR.meet sd aI (fun g_=>fp rfl ?_ ?_ rfl);(iterate 34 refine aC ?_);exact trivial;(iterate 2 refine aF ?_);exact SV;refine AR.fG (i:=9) rfl aI rfl ?_;intro g_ b_ f_;refine uE ?_;refine aB ?_;exact xk;refine AR.fG (i:=3) rfl aI rfl ?_;intro g_ b_ f_;refine uE ?_;refine aB ?_;refine AR.sw 4 5 (by assumption) aI aI ?_;refine Gb ?_;refine Lu ?_;refine Pq ?_;(iterate 3 refine aF ?_);exact SV;refine AR.fG (i:=6) rfl aI rfl ?_;intro g_ b_ f_;refine uE ?_;refine aB ?_;refine AR.sw 4 5 (by assumption) aI aI ?_;refine Gb ?_;refine Pq ?_;(iterate 3 refine aF ?_);exact SV;refine AR.free 10 aI rfl rfl rfl (fS.build 92 [0,1,2,5] rfl rfl rfl rfl rfl rfl rfl rfl) ?_;refine aB ?_;refine AR.iw [11,12] aI aI aI aI ?_;intro g_ b_;show a_ .held _ _ _ [_,_] _ _;refine Q9 ?_;refine Q4 ?_;intro k_ iL;refine Q0 ?_;refine xD ?_;intro g_ b_ fe;(with_reducible apply a_.wq);(iterate 3 exact rfl);(repeat' first|exact uG.nil|apply uG.take|apply uG.skip);(iterate 5 exact rfl);(with_reducible assumption);refine r9 ?_;refine xy ?_;refine a_.oQ rfl rfl rfl ?_;refine zd ?_;refine AW.ret ?_;refine ze rfl rfl ?_;refine Q0 ?_;refine a_.oQ rfl rfl rfl ?_;refine zd ?_;refine zo ?_;refine AW.lq 2 ?_)
 refine Stop.go ?_
 refine AW.zI 3 ?_
 refine AW.zI 3 ?_
 refine AW.zI 3 ?_
 refine AW.Dl 20 (by rfl) ?_
 refine AW.Nk 0 11 (by assumption) rfl rfl ?_
 refine AW.Nk 2 0 (by assumption) rfl rfl ?_
 refine AW.Nk 1 8 (by assumption) rfl rfl ?_
 refine AW.Nk 3 1 (by assumption) rfl rfl ?_
 refine AW.Nk 4 2 (by assumption) rfl rfl ?_
 refine AW.Nk 3 4 (by assumption) rfl rfl ?_
 refine AW.Nk 5 3 (by assumption) rfl rfl ?_
 refine AW.Nk 6 9 (by assumption) rfl rfl ?_
 refine Gb ?_
 refine AW.fp (δ':=⟨54,[(8,.ptr 0 0),(2,.ptr 11 0),(1,.pv (jI A)),(1000,.agg [])],gV (lz n)++ [(11,some (.box [eV n,.pv (jj F)]))],20⟩) ?_ ?_
 ·exact fp rfl (by(refine aC ?_;refine aC ?_;refine⟨.ib (by first|rfl|exact hz|exact hw|exact Ar),?_⟩;refine aC ?_;exact trivial)) (by(refine⟨.box _ rfl ?_,?_⟩;(iterate 3 refine⟨.e9 (by first|rfl|exact hz|exact hw|exact Ar) rfl,?_⟩);refine⟨.fg (by first|rfl|exact hz|exact hw|exact Ar),?_⟩;refine⟨.jt _ _ _ rfl rfl,?_⟩;refine⟨.fg (by first|rfl|exact hz|exact hw|exact Ar),?_⟩;refine⟨.LW (by first|rfl|exact hz|exact hw|exact Ar) rfl rfl,?_⟩;refine⟨.e9 (by first|rfl|exact hz|exact hw|exact Ar) rfl,?_⟩;(iterate 3 refine⟨.fg (by first|rfl|exact hz|exact hw|exact Ar),?_⟩);refine⟨.jt _ _ _ rfl rfl,?_⟩;refine⟨.fg (by first|rfl|exact hz|exact hw|exact Ar),?_⟩;(iterate 2 refine⟨.Ip (by first|rfl|exact hz|exact hw|exact Ar),?_⟩);exact trivial;(iterate 3 refine aF ?_);refine⟨.e8 rfl (by first|rfl|exact hz|exact hw|exact Ar),?_⟩;(iterate 2 refine⟨.iF rfl,?_⟩);refine⟨.e8 rfl (by first|rfl|exact hz|exact hw|exact Ar),?_⟩;refine aF ?_;refine⟨.e8 rfl (by first|rfl|exact hz|exact hw|exact Ar),?_⟩;refine⟨.iF rfl,?_⟩;refine⟨.box _ rfl ?_,?_⟩;refine⟨.fg (by first|rfl|exact hz|exact hw|exact Ar),?_⟩;refine⟨.ib (by first|rfl|exact hz|exact hw|exact Ar),?_⟩;(iterate 2 exact trivial))) rfl
 simp only[gV,gW,List.cons_append,List.nil_append]
 (refine xy ?_;refine a_.Qw rfl rfl rfl rfl rfl rfl rfl ?_;refine zd ?_;refine GS ?_;refine zo ?_;refine ko ?_;refine Aa ?_)
 (refine Q0 ?_;apply AW.gN [8,2,1,1000] [1,2,3,5,6,8,10,11] (fun q:SR×Nat=>([(9,eV (q.2:Nat))]:List (Nat×AV))) (fun q:SR×Nat=>([(0,some (.box [.own 1 3 1 ((q.1.value).map encI),.own 2 3 1 ((q.1.level).map encI),.own 3 3 1 ((q.1.reason).map encI),.pv (.lit (q.1.hl 0)),.own 5 3 1 ((q.1.marks).map encI),eV (q.1.low),.own 6 29 1 (gx q.1.nc q.1.hc),.own 8 29 1 (gx q.1.nw q.1.hw),eV (q.1.head),eV (q.1.added),fh (q.1.broken),.own 10 65 3 ((q.1.proof).map o_),eV 0,.pv (jI (q.1.model)),.pv (jI (q.1.core))])),(4,some (.e8 3 (j9 q.1.hl q.1.ll))),(7,some (.e8 3 (j9 q.1.hc q.1.cl))),(9,some (.e8 3 (j9 q.1.hw q.1.wl)))]:List (Nat×Option Ob))) (fun q:SR×Nat=>(lR n (F.take q.2) q.2 q.1∧q.2≤F.length)) (fun q:SR×Nat=>F.length - q.2) ((lz n,0));(conv=>lhs;simp only[Nf.nN,Nf.all,di,reduceAdd,reduceSub]);(all_goals skip))
 ·exact⟨Dz hn,bm _⟩
 ·exact fp rfl (by(refine aD ?_;(iterate 2 refine aC ?_);refine aG ?_;refine aC ?_;exact trivial)) (by(refine⟨.box _ rfl ?_,?_⟩;(iterate 3 refine aE ?_);refine aD ?_;refine aE ?_;refine aD ?_;(iterate 2 refine aE ?_);(iterate 3 refine aD ?_);refine aE ?_;refine aD ?_;(iterate 2 refine aG ?_);exact trivial;(iterate 3 refine aH ?_);(iterate 7 refine aF ?_);refine⟨.box _ rfl ?_,?_⟩;refine aD ?_;refine aG ?_;(iterate 2 exact trivial))) rfl
 rintro⟨σ,i⟩ ⟨hσ,hi⟩
 simp only at hσ hi
 by_cases fm:i<F.length
 ·obtain⟨Dq,PD⟩:=hc _ (cZ fm)
  have Tm:=zg n (F.take i) i σ hσ aJ F[i] PD Dq
  rw[← dp fm] at Tm
  simp only[gV,gW] at Tm
  (refine zo ?_;refine ka ?_;refine vB ?_;refine BV ?_;refine uo ?_;refine vB ?_;refine zm ?_;refine aA ?_;refine zr ?_;(with_reducible apply a_.jU (hf:=Tm));(with_reducible assumption);(iterate 3 exact rfl);exact aq;exact ak;(intro x_;exact rfl);exact rfl;exact al;(intro x_;exact al);(intro x_;exact rfl);exact rfl;(intro x_ pq);refine mB ?_;refine a_.not rfl rfl rfl ?_;refine rK ?_;refine Q0 ?_;refine zm ?_;refine zj ?_;refine kM ?_)
  exact⟨(x_,i+1),⟨pq,fm⟩,by show F.length - (i+1)<F.length - i;omega,fp rfl (by(refine aD ?_;(iterate 2 refine aC ?_);refine aG ?_;refine aC ?_;exact trivial)) (by(refine⟨.box _ rfl ?_,?_⟩;(iterate 3 refine aE ?_);refine aD ?_;refine aE ?_;refine aD ?_;(iterate 2 refine aE ?_);(iterate 3 refine aD ?_);refine aE ?_;refine aD ?_;(iterate 2 refine aG ?_);exact trivial;(iterate 3 refine aH ?_);(iterate 7 refine aF ?_);refine⟨.box _ rfl ?_,?_⟩;refine aD ?_;refine aG ?_;(iterate 2 exact trivial))) rfl⟩
 ·obtain rfl:i=F.length:=by omega
  rw[da] at hσ
  have PH:=Ia n F F.length σ hσ aJ A hA WY 10000 aJ (by omega)
  rw[show((10000:Nat):Int)=10000 from rfl] at PH
  simp only[gV,gW] at PH
  (refine zo ?_;refine ka ?_;refine vB ?_;refine JM ?_;refine uo ?_;refine zm ?_;(with_reducible apply a_.jU (hf:=PH));(with_reducible assumption);(iterate 3 exact rfl);exact aq;exact ak;(intro x_;exact rfl);exact rfl;exact al;(intro x_;exact al);(intro x_;exact rfl);exact rfl;(intro x_ pq);refine mB ?_;refine kM ?_;refine AW.lq 10 ?_)
  refine Stop.go ?_
  obtain⟨t,k⟩:=x_
  have ht:=pq
  simp only at ht ⊢
  have IL:=ht.plen2
  have oV:=ht.lits
  have KV:∀m,(oS n m).length=n:=fun m=>by simp [oS]
  (refine ko ?_;refine pz ?_;refine ko ?_;refine Aa ?_)
  (refine Q0 ?_;apply AW.gN [10,8,2,1000] [0,1,2,3,4,5,6,7,8,9,10,11] (fun v:Nat=>([(11,.own 12 4 1 (((oS n t.model).take v).map oz)),(12,eV ((v:Int)+1))]:List (Nat×AV))) (fun v:Nat=>([(12,some .row)]:List (Nat×Option Ob))) (fun v:Nat=>v≤n) (fun v:Nat=>n - v) (0);(conv=>lhs;simp only[Nf.nN,Nf.all,di,reduceAdd,reduceSub]);(all_goals skip))
  ·exact bm _
  ·exact fp rfl (by(refine⟨.jt _ _ _ rfl rfl,?_⟩;(iterate 2 refine aD ?_);(iterate 3 refine aC ?_);exact trivial)) (by(refine⟨.iF rfl,?_⟩;refine⟨.box _ rfl ?_,?_⟩;(iterate 3 refine aE ?_);refine aD ?_;refine aE ?_;refine aD ?_;(iterate 2 refine aE ?_);(iterate 3 refine aD ?_);refine aE ?_;refine aD ?_;(iterate 2 refine aG ?_);exact trivial;(iterate 3 refine aF ?_);refine aH ?_;(iterate 2 refine aF ?_);refine aH ?_;refine aF ?_;refine aH ?_;refine aF ?_;refine⟨.box _ rfl ?_,?_⟩;refine aD ?_;refine aG ?_;(iterate 2 exact trivial))) rfl
  rintro v hv
  by_cases qV:v<n
  ·have Ur:=IH t (v+1) (by omega)
   have e:((oS n t.model).take (v+1)).map oz=((oS n t.model).take v).map oz++ [oz (decide (0<t.model.getD (v+1) 0))]:=by
    rw[dp (by rw[KV];exact qV),cV]
    simp [oS]
   rw[show((v+1:Nat):Int)=(v:Int)+1 from rfl] at Ur
   have rL:=dN v (oS n t.model)
   simp only[gV,gW] at Ur
   (refine nf ?_;refine xB ?_;refine a_.leq rfl rfl rfl rfl rfl ?_;refine na ?_;refine Cd ?_;refine zo ?_;refine AW.block ?_;refine qs ?_;refine a_.fT rfl rfl rfl ?_;refine FU ?_;refine zX (Ur) ?_;refine mB ?_;(with_reducible apply a_.nr);(iterate 5 exact rfl);exact ag;exact rfl;exact rfl;refine Q0 ?_;(with_reducible apply a_.fI);exact rfl;exact ah;(iterate 9 exact rfl);exact aa;refine Q0 ?_;refine yB ?_;refine Q0 ?_;refine zm ?_;refine zj ?_;refine kM ?_)
   exact⟨v+1,by omega,by omega,fp rfl (by(refine⟨.e9 (by first|rfl|(rw[e];rfl)) rfl,?_⟩;refine⟨.fg (by first|rfl|(rw[e];rfl)),?_⟩;refine⟨.fg (by first|rfl|(rw[e];rfl)),?_⟩;(iterate 3 refine aC ?_);exact trivial)) (by(refine aF ?_;refine⟨.box _ rfl ?_,?_⟩;refine⟨.e9 (by first|rfl|(rw[e];rfl)) rfl,?_⟩;refine⟨.e9 (by first|rfl|(rw[e];rfl)) rfl,?_⟩;refine⟨.e9 (by first|rfl|(rw[e];rfl)) rfl,?_⟩;refine⟨.fg (by first|rfl|(rw[e];rfl)),?_⟩;refine⟨.e9 (by first|rfl|(rw[e];rfl)) rfl,?_⟩;refine⟨.fg (by first|rfl|(rw[e];rfl)),?_⟩;refine⟨.e9 (by first|rfl|(rw[e];rfl)) rfl,?_⟩;refine⟨.e9 (by first|rfl|(rw[e];rfl)) rfl,?_⟩;refine⟨.fg (by first|rfl|(rw[e];rfl)),?_⟩;refine⟨.fg (by first|rfl|(rw[e];rfl)),?_⟩;refine⟨.fg (by first|rfl|(rw[e];rfl)),?_⟩;refine⟨.e9 (by first|rfl|(rw[e];rfl)) rfl,?_⟩;refine⟨.fg (by first|rfl|(rw[e];rfl)),?_⟩;refine⟨.ib (by first|rfl|(rw[e];rfl)),?_⟩;refine⟨.ib (by first|rfl|(rw[e];rfl)),?_⟩;exact trivial;(iterate 3 refine aF ?_);refine⟨.e8 rfl (by first|rfl|(rw[e];rfl)),?_⟩;(iterate 2 refine aF ?_);refine⟨.e8 rfl (by first|rfl|(rw[e];rfl)),?_⟩;refine aF ?_;refine⟨.e8 rfl (by first|rfl|(rw[e];rfl)),?_⟩;refine aF ?_;refine⟨.box _ rfl ?_,?_⟩;refine⟨.fg (by first|rfl|(rw[e];rfl)),?_⟩;refine⟨.ib (by first|rfl|(rw[e];rfl)),?_⟩;(iterate 2 exact trivial))) rfl⟩
  ·obtain rfl:v=n:=by omega
   rw[show(oS v t.model).take v=oS v t.model from List.take_of_length_le (by rw[KV];exact aP _)]
   have iR:=ht.CR
   have ke:=ht.Tc
   have Sr:=Mf t iR
   have XC:=Iv t aJ ke
   simp only[gV,gW,Oe,Hf] at Sr XC
   (refine nf ?_;refine xB ?_;refine a_.leq rfl rfl rfl rfl rfl ?_;refine zd ?_;refine zk ?_;refine D5 ?_;refine AW.lq 15 ?_)
   refine Stop.go ?_
   refine AW.Pc 12 rfl ?_
   refine aB ?_
   (refine zq ?_;(iterate 2 refine zm ?_);refine a_.fH rfl rfl rfl ?_;refine zX (Sr) ?_;refine mB ?_;refine a_.fH rfl rfl rfl ?_;refine zX (XC) ?_;refine mB ?_;(iterate 4 refine za ?_);refine zd ?_;refine AW.ret ?_)
   (apply CO (((k,oS v t.model,t.core,t.proof):Int×List Bool×List Int×List (List Int))) (⟨t,ht,rfl,rfl,rfl⟩);((exact BE.four (.tmp rfl rfl) (.tmp rfl rfl) (.tmp rfl rfl) (.tmp rfl rfl)));(((iterate 2 refine aC ?_);(iterate 2 exact trivial)));(skip);exact rfl)
end Go.Ab
/- What solving gives,in terms of assignments. -/
namespace Go.Ab
open Go Go.Proofs
def DG (v:List Bool):Nat→Bool:=fun u=>v.getD (u - 1) false
theorem nY {n:Nat} {v:List Bool} {x:Int} (hx:Lit n x):jx (DG v) x↔jH v x=true:=by
 obtain⟨h0,_,_⟩:=hx
 unfold jx jH DG
 by_cases h:x<0
 ·rw[if_pos h,if_neg aJ,if_pos h,show fa x - 1=(0 - x - 1).toNat by unfold fa;omega]
  cases v.getD (0 - x - 1).toNat false<;>simp
 ·rw[if_neg h,if_pos aJ,show fa x - 1=(x - 1).toNat by unfold fa;omega]
theorem mN {n:Nat} {v:List Bool} {F:List (List Int)} (hF:∀c∈F,∀x∈c,Lit n x):kX (DG v) F↔allM v F=true:=by
 unfold kX allM kL
 simp only[bD,df]
 constructor
 ·intro h c hc
  obtain⟨x,hx,ht⟩:=h c hc
  exact⟨x,hx,(nY (hF c hc x hx)).1 ht⟩
 ·intro h c hc
  obtain⟨x,hx,ht⟩:=h c hc
  exact⟨x,hx,(nY (hF c hc x hx)).2 ht⟩
def zO (n:Nat) (L:List Int):List Bool:=(bc n).map fun i=>decide (((i+1:Nat):Int)∈L)
theorem Iy (n:Nat) (L:List Int):(zO n L).length=n:=by simp [zO]
theorem uV {n:Nat} {L:List Int} {u:Nat} (h1:1≤u) (h2:u≤n):DG (zO n L) u=pb L u:=by
 unfold DG zO pb
 rw[c8,List.getElem?_map,List.getElem?_range aJ]
 simp only[Option.map_some,Option.getD_some]
 rw[show u - 1+1=u by omega]
theorem jx.congr {n:Nat} {σ τ:Nat→Bool} {x:Int} (hx:Lit n x) (h:∀u,1≤u→u≤n→σ u=τ u):jx σ x↔jx τ x:=by
 have:=jm hx
 unfold jx
 rw[h _ this.1 this.2]
theorem kX.congr {n:Nat} {σ τ:Nat→Bool} {F:List (List Int)} (hF:∀c∈F,∀x∈c,Lit n x) (h:∀u,1≤u→u≤n→σ u=τ u) (hs:kX σ F):kX τ F:=fun c hc=>by
 obtain⟨x,hx,ht⟩:=hs c hc
 exact⟨x,hx,(jx.congr (hF c hc x hx) h).1 ht⟩
section
variable {n:Nat} {F:List (List Int)} {A:List Int} {q:Int×List Bool×List Int×List (List Int)}
theorem fv.one (h:fv n F A q) (hn:n≤8):q.1=1∨q.1=2:=by
 obtain⟨t,h1,_⟩:=h
 rcases h1.res with ⟨e,_⟩|⟨e,_⟩|⟨_,_,_,e⟩
 ·exact .inl e
 ·exact .inr e
 ·exfalso
  have:3 ^ n≤3 ^ 8:=Nat.pow_le_pow_right aJ hn
  have:3 ^ 8=6561:=by decide
  omega
theorem fv.Bb (h:fv n F A q):∀c∈F,∀x∈c,Lit n x:=by
 obtain⟨t,h1,_⟩:=h
 exact fun c hc=>h1.lits c (bX.2 (.inl hc))
theorem fv.Kz (h:fv n F A q) {σ:Nat→Bool} (hσ:kX σ F):kX σ (F++q.2.2.2):=by
 obtain⟨t,h1,_,_,e⟩:=h
 rw[e]
 exact h1.sC.sound hσ fun c hc x hx=>(h1.lits c hc x hx).1
theorem fv.unsat (h:fv n F A q) (h2:q.1=2) {σ:Nat→Bool} (hσ:kX σ F) (hA:∀x∈A,jx σ x):False:=by
 have hL:=h.Kz hσ
 obtain⟨t,h1,_,_,e⟩:=h
 rcases h1.res with ⟨e1,_⟩|⟨_,_,P,e2,e3,_,e4⟩|⟨e1,_⟩
 ·omega
 ·rw[e,e2] at hL
  obtain⟨y,hy,ht⟩:=hL (t.core.map fun y=> -y) (by simp)
  obtain⟨x,hx,rfl⟩:=bx.1 hy
  exact(jx.neg (e4 x hx).1).1 ht (hA x (e3 x hx))
 ·omega
theorem fv.sat (h:fv n F A q) (h2:q.1=1):∃L,xN n F A L∧q.2.1=zO n L∧q.2.2.1=[]:=by
 obtain⟨t,h1,e1,e3,_⟩:=h
 rcases h1.res with ⟨_,L,e2,e4,hl⟩|⟨e2,_⟩|⟨e2,_⟩
 ·refine⟨L,hl,?_,by rw[e3,e4]⟩
  rw[e1,e2]
  unfold oS zO
  apply dO
  intro i hi
  have hi:=dG.1 hi
  rw[sA L aJ]
  by_cases h3:((i+1:Nat):Int)∈L
  ·rw[if_pos h3,decide_eq_true h3];rfl
  ·rw[if_neg h3,decide_eq_false h3,decide_eq_false_iff_not]
   split<;>omega
 ·omega
 ·omega
theorem fv.Hs (h:fv n F A q) (h2:q.1=1):q.2.1.length=n∧allM q.2.1 F=true:=by
 obtain⟨L,hl,e,_⟩:=h.sat h2
 rw[e]
 refine⟨Iy n L,(mN h.Bb).1 (kX.congr h.Bb (fun u h1 h2=>(uV h1 h2).symm) hl.sat)⟩
theorem fv.iff (h:fv n F A q) (hn:n≤8) (hA:∀x∈A,Lit n x):q.1=1↔∃v:List Bool,v.length=n∧allM v F=true∧n5 v A=true:=by
 constructor
 ·intro h2
  obtain⟨L,hl,e,_⟩:=h.sat h2
  obtain⟨q1,q2⟩:=h.Hs h2
  refine⟨q.2.1,q1,q2,?_⟩
  unfold n5
  rw[bD]
  intro x hx
  rw[e,← nY (hA x hx)]
  exact(jx.congr (hA x hx) fun u h1 h2=>(uV h1 h2).symm).1 ((pD hl.ix hl.full (hA x hx)).2 (hl.p8 x hx))
 ·rintro⟨v,q1,q2,q3⟩
  rcases h.one hn with e|e
  ·exact e
  ·exfalso
   refine h.unsat e ((mN h.Bb).2 q2) fun x hx=>(nY (hA x hx)).2 ?_
   unfold n5 at q3
   exact bD.1 q3 x hx
end
end Go.Ab
/- Unit propagation's run,and what is derived:the same. -/
namespace Go.Ab
open Go Go.Proofs
theorem vw {l:List Int}:gy l=true↔∃x∈l,-x∈l:=by
 unfold gy
 rw[df]
 simp
theorem Mt {vars:Int} {cl:List (List Int)} {az:List Int} {A:Int→Prop} (hv:0≤vars) (iR:∀c∈cl,eX vars c=true) (hw:eX vars az=true) (hc:gy az=false) (hA:∀x∈az,A x):∀x∈(runM vars cl az).1,oe cl A x:=by
 refine BD hv iR hw hc (fun t=>∀x∈t,oe cl A x) (fun x hx=> .p8 (hA x ((oF az x).1 hx))) fun t c x Cn hI _ ho hx _ _ y hy=>?_
 rcases bX.1 hy with hy|hy
 ·exact hI y hy
 ·rw[cq.1 hy]
  refine .unit Cn hx fun z hz fW=>?_
  rcases((oR t c [] [x] ho).2 z hz).2 with q|q
  ·exact hI _ q
  ·exact absurd (by simpa using q) fW
theorem H5 {vars:Int} {cl:List (List Int)} {c:List Int} (hv:0≤vars) (iR:∀d∈cl,eX vars d=true) (hc:eX vars c=true):gR vars cl c=true↔JV cl c:=by
 have Vy:∀d∈cl,∀x∈d,x≠0:=fun d hd x hx=>(fE (iR d hd) x hx).1
 have hw:eX vars (c.map fun x=>0 - x)=true:=by
  unfold eX
  rw[bD]
  intro y hy
  obtain⟨x,hx,rfl⟩:=bx.1 hy
  have:=fE hc x hx
  simp only[decide_eq_true_eq]
  omega
 cases qZ:gy (c.map fun x=>0 - x) with
 |true=>
  unfold gR
  rw[if_pos qZ]
  refine⟨fun _=>?_,fun _=>rfl⟩
  obtain⟨y,hy,hn⟩:=vw.1 qZ
  obtain⟨x,hx,rfl⟩:=bx.1 hy
  obtain⟨z,hz,e⟩:=bx.1 hn
  refine .inr ⟨x,hx,?_⟩
  rw[show -x=z by omega];exact hz
 |false=>
  have hF:=Ad hv iR hw qZ
  unfold gR
  rw[if_neg (by rw[qZ];simp),decide_eq_true_eq]
  constructor
  ·intro h
   rcases hF.fin with ⟨q,_⟩|⟨j,hj,_,q⟩
   ·omega
   ·left
    have hd:=Mt (A:=DI c) hv iR hw qZ fun x hx=>by
     obtain⟨z,hz,rfl⟩:=bx.1 hx
     show -(0 - z)∈c
     rw[show -(0 - z)=z by omega];exact hz
    exact⟨cl[j],cZ hj,fun y hy=>hd _ (wB (Vy _ (cZ hj)) q y hy)⟩
  ·intro h
   rcases hF.fin with ⟨_,q⟩|⟨j,hj,e,_⟩
   ·exfalso
    have hT:=hF.dist
    have iJ:∀x,oe cl (DI c) x→x∈(runM vars cl (c.map fun x=>0 - x)).1:=fun x hx=>by
     induction hx with
     | @p8 x h=>
      rw[hF.mem]
      exact bX.2 (.inl (bx.2 ⟨-x,h,by omega⟩))
     | @unit d x hd hx _ ih=>exact uc hT (Vy d hd) (q d hd) ih
    rcases h with ⟨d,hd,jO⟩|⟨x,h1,h2⟩
    ·have:=uc (x:=0) hT (Vy d hd) (q d hd) fun y hy _=>iJ _ (jO y hy)
     exact(hT.2 0 this).1 rfl
    ·have:gy (c.map fun x=>0 - x)=true:=vw.2 ⟨0 - x,bx.2 ⟨x,h1,rfl⟩,bx.2 ⟨-x,h2,by omega⟩⟩
     rw[qZ] at this;cases this
   ·omega
end Go.Ab
/- The laws through the layers:the examples at their heads. -/
namespace Go.Ab
open Go Go.Proofs
set_option maxRecDepth 20000
set_option maxHeartbeats 8000000
def jh (P:List (List Int)):List gB:=P.map fun l=>⟨1,l,0⟩
theorem xL (P:List (List Int)):P.map o_=(jh P).map encS:=by
 unfold jh
 rw[List.map_map];rfl
theorem C_ {v:Int} {cl:List (List Int)} {s:List (List Int)}:qY ⟨v,cl,s⟩ (iE v cl) [] where
 len:=fun v h1 h2=>h1
 all:=fun v h1 h2=>h2
 pre:=fun v h1 h2=>⟨[],by rw[List.append_nil];rfl⟩
 xF:=fun hr v h1 h2=>by
  have hr:(cl.any fun c=>decide ((c.length:Int)=0))=true:=hr
  obtain⟨c,hc,h0⟩:=df.1 hr
  have h0:c=[]:=bj (by simpa using h0)
  have:=bD.1 h2 c hc
  rw[h0] at this
  simp [kL] at this
def vr (n:Nat) (cl syms:List (List Int)) (l:List gB):Bool:=decide ((jg ⟨n,cl,syms⟩ (iE n cl) l).2=l.length) && (jg ⟨n,cl,syms⟩ (iE n cl) l).1.ref
theorem Dp {n:Nat} {cl syms:List (List Int)} {l:List gB} (iJ:Lq n cl syms l) (h:vr n cl syms l=true) {v:List Bool} (h1:v.length=n) (h2:allM v cl=true):False:=by
 unfold vr at h
 rw[aZ,decide_eq_true_eq] at h
 exact(x8 (e:=⟨n,cl,syms⟩) (fun c hc=>(iJ.iR c hc).1) (by show(0:Int)≤n;omega) l C_ iJ.ok iJ.hl.2 h.1).2 h.2 v (by rw[h1]) h2
theorem Eg:∀(P:List (List Int)),wS (jh P)=P.length
 |[]=>rfl
 |c::P=>by
  have ih:=Eg P
  unfold wS jh at*
  simp only[List.map_cons,List.sum_cons,List.length_cons]
  rw[show wT ⟨1,c,0⟩=1 from if_neg (show ¬(1:Int)=3 by decide)]
  omega
theorem fv.UW {n:Nat} {F:List (List Int)} {A:List Int} {q:Int×List Bool×List Int×List (List Int)} (h:fv n F A q) (hn:n≤400) {G:List (List Int)} (hG:∀c∈G,eX n c=true∧c.length≤1000) (Vf:G.length≤1000):Lq n G [] (jh q.2.2.2):=by
 obtain⟨t,h1,_,_,e⟩:=h
 have hlen:∀c∈t.proof,c.length≤2*n+2:=fun c hc=>by
  have:=jN (n:=2*n+2) (l:=c.map eQ) (by
   unfold List.Nodup
   rw[dB]
   exact(h1.nd c hc).imp_of_mem fun {a b} ha hb qh e=>qh (gU (h1.lits c (bX.2 (.inr hc)) a ha) (h1.lits c (bX.2 (.inr hc)) b hb) (by rw[e]))) fun v hv=>by
   obtain⟨a,ha,rfl⟩:=bx.1 hv
   have:=hY (h1.lits c (bX.2 (.inr hc)) a ha)
   omega
  simpa using this
 have hw:=Eg t.proof
 have hp:=h1.plen2
 rw[e]
 refine⟨by omega,hG,Vf,⟨by simp,fun c hc=>by simp at hc⟩,⟨?_,fun s hs=>?_⟩,by unfold jh;rw[a6];exact hp⟩
 ·omega
 ·unfold jh at hs
  obtain⟨c,hc,rfl⟩:=bx.1 hs
  have:=hlen c hc
  show c.length≤900
  omega
theorem fv.Xb {n:Nat} {F:List (List Int)} {A:List Int} {q:Int×List Bool×List Int×List (List Int)} (h:fv n F A q) (hn:n≤8) {G:List (List Int)} (hG:∀c∈G,eX n c=true∧c.length≤1000) (Vf:G.length≤1000):Lq n G [] (jh q.2.2.2):=h.UW aJ hG Vf
abbrev OO:List (List Int):=[[1,2],[-1,2],[1,-2]]
abbrev SY:List (List Int):=[[1,2],[-1,2],[1,-2],[-1,-2]]
theorem LR:∀v:List Bool,v.length=2→allM v OO=true→v=[true,true]:=by
 intro v h1 h2
 match v,h1 with
 |[a,b],_=>cases a<;>cases b<;>first|rfl|(exfalso;revert h2;decide)
theorem HC:∀v:List Bool,v.length=2→allM v SY=true→False:=by
 intro v h1 h2
 match v,h1 with
 |[a,b],_=>cases a<;>cases b<;>(revert h2;decide)
theorem H3 {F:List (List Int)} (h:(F.all fun c=>c.all fun x=>decide (x≠0∧ -2≤x∧x≤2))=true):∀c∈F,∀x∈c,Lit 2 x:=fun c hc x hx=>by
 rw[bD] at h
 have:=bD.1 (h c hc) x hx
 simp only[decide_eq_true_eq] at this
 exact⟨this.1,by omega,by omega⟩
theorem Bi {F:List (List Int)} (h:∀c∈F,∀x∈c,Lit 2 x) (h2:(F.all fun c=>decide (c.length≤2))=true):(∀c∈F,c.length≤1000000∧∀x∈c,Lit 2 x)∧∀c∈F,eX (2:Nat) c=true∧c.length≤1000:=by
 rw[bD] at h2
 refine⟨fun c hc=>⟨by have:=h2 c hc;simp at this;omega,h c hc⟩,fun c hc=>⟨?_,by have:=h2 c hc;simp at this;omega⟩⟩
 unfold eX
 rw[bD]
 intro x hx
 obtain⟨_,_,_⟩:=h c hc x hx
 simp only[decide_eq_true_eq]
 omega
theorem VN:eX (2:Nat) [1]=true:=by decide
attribute [local irreducible] AW a_ gb fq AR fz fk fJ fX canon iV j3 nP pf mr eX iM gR jg hO
theorem I4:Fn Tryz.prog 5 [] (fh true):=by
 obtain⟨f1,f2⟩:=Bi (F:=OO) (H3 (by decide)) (by decide)
 obtain⟨g1,g2⟩:=Bi (F:=SY) (H3 (by decide)) (by decide)
 have h1:=qo 2 OO [] aJ (by simp) f1 (by simp) (by simp)
 have h2:=qo 2 SY [1] aJ (by simp) g1 (by intro x hx;simp at hx;subst hx;exact⟨by omega,by omega,by omega⟩) (by simp)
 refine Fn.enter (n:=77) Tryz.func5 rfl rfl rfl rfl rfl (by decide) fun g fD fB=>?_;(try refine nz ?_)
 (refine zq ?_;refine pB ?_;(iterate 3 refine Lw ?_);(iterate 3 refine Pz ?_);refine a_.UD rfl rfl rfl rfl rfl rfl rfl rfl rfl rfl rfl rfl rfl rfl ?_;refine QP ?_;refine a_.L1 rfl rfl ?_;refine nz ?_;(with_reducible apply a_.jU (hf:=h1));(with_reducible assumption);(iterate 3 exact rfl);exact aq;exact ak;(intro x_;exact rfl);exact rfl;exact al;(intro x_;exact al);(intro x_;exact rfl);exact rfl;(intro x_ pq);refine LP ?_;refine AW.lq 3 ?_)
 obtain⟨k,vals,core,P⟩:=x_
 have hs:=pq
 simp only at hs ⊢
 have hk:k=1:=(hs.iff aJ (by simp)).2 ⟨[true,true],rfl,by decide,by decide⟩
 subst hk
 obtain⟨q1,q2⟩:=hs.Hs rfl
 have hv:=LR vals q1 q2
 subst hv
 refine Stop.go ?_
 (refine ly ?_;(iterate 4 refine Lw ?_);(iterate 4 refine Pz ?_);refine a_.Us rfl rfl rfl rfl rfl rfl rfl rfl rfl rfl rfl rfl rfl rfl rfl rfl rfl ?_;refine QP ?_;refine uZ ?_;refine a_.L1 rfl rfl ?_;refine nz ?_;refine a_.L1 rfl rfl ?_;refine nz ?_;(with_reducible apply a_.jU (hf:=h2));(with_reducible assumption);(iterate 3 exact rfl);exact aq;exact ak;(intro x_;exact rfl);exact rfl;exact al;(intro x_;exact al);(intro x_;exact rfl);exact rfl;(intro x_ pq);refine LP ?_;refine zo ?_;refine AW.lq 5 ?_)
 obtain⟨k2,vals2,core2,P2⟩:=x_
 have JS:=pq
 simp only at JS ⊢
 refine Stop.go ?_
 have rE:k2=2:=(JS.one aJ).resolve_left fun e=>by
  obtain⟨q1,q2⟩:=JS.Hs e
  exact HC vals2 q1 q2
 subst rE
 have iR:core2.length≤1∧0<P2.length:=by
  obtain⟨t,t1,_,t2,t3⟩:=JS
  rcases t1.res with ⟨e,_⟩|⟨_,_,Q,e1,e2,e3,_⟩|⟨e,_⟩
  ·cases e
  ·have t2:core2=t.core:=t2
   have t3:P2=t.proof:=t3
   refine⟨?_,by rw[t3,e1];simp⟩
   rw[t2]
   match t.core,e2,e3 with
   |[],_,_=>simp
   |[a],_,_=>simp
   |a::b::r,e2,e3=>
    exfalso
    have ha:=e2 a (by simp)
    have hb:=e2 b (by simp)
    simp at ha hb
    subst ha
    subst hb
    simp at e3
  ·cases e
 obtain⟨c1,c2⟩:=iR
 have iJ:=JS.Xb aJ (G:=OO) f2 (by simp)
 have hr:=wb (2:Nat) OO [] (jh P2) iJ
 have Po:vr 2 OO [] (jh P2)=false:=by
  cases h:vr 2 OO [] (jh P2) with
  |false=>rfl
  |true=>exact(Dp iJ h (v:=[true,true]) rfl (by decide)).elim
 unfold vr at Po
 rw[Po] at hr
 rw[show steps (jh P2)=PV.slice 3 (P2.map o_) from by rw[xL]] at hr
 have hi:=DV (2:Nat) SY [1] ⟨by omega,fun c hc=>⟨(g2 c hc).1,by have:=(g2 c hc).2;omega⟩,by simp⟩ (by simp) VN
 rw[show gR (2:Nat) SY [1]=true by decide+kernel] at hi
 have hP:¬((P2.length:Nat):Int)=0:=by omega
 (refine ly ?_;refine zm ?_;refine zn ?_;refine a_.neq rfl rfl rfl rfl rfl ?_;refine zm ?_;refine Kv ?_;refine ph ?_;refine ly ?_;refine zm ?_;refine a_.eql rfl rfl rfl rfl rfl ?_;refine zm ?_;refine pd ?_;refine a_.xQ rfl rfl rfl rfl rfl rfl rfl rfl aJ ?_;refine nz ?_;refine zl ?_;refine zr ?_;refine zh ?_;refine pd ?_;refine a_.xQ rfl rfl rfl rfl rfl rfl rfl rfl aJ ?_;refine nz ?_;refine zl ?_;refine zr ?_;refine zh ?_;refine pd ?_;refine a_.eql rfl rfl rfl rfl rfl ?_;refine zh ?_;refine pd ?_;refine zn ?_;refine zl ?_;refine a_.leq rfl rfl rfl rfl rfl ?_;refine zh ?_;refine zt ?_;refine rq ?_;refine zN ?_;refine zA (hr) ?_;refine zt ?_;refine a_.not rfl rfl rfl ?_;refine zT ?_;refine zm ?_;refine zl ?_;refine rq ?_;refine zl ?_;refine uZ ?_;refine zl ?_;refine zA (hi) ?_;refine a_.jz rfl rfl rfl rfl rfl rfl ?_;refine kQ ?_)
 (apply e6;(exact gk.one (.tmp rfl rfl));(refine Le.fh ?_;(first|rfl)))
end Go.Ab
/- The laws through the layers:learned clauses are redundant. -/
namespace Go.Ab
open Go Go.Proofs
open Nat (reduceAdd reduceSub)
set_option maxRecDepth 20000
set_option maxHeartbeats 8000000
theorem xN.uniq {n:Nat} {F G:List (List Int)} {A L M:List Int} (h1:xN n F A L) (h2:xN n G A M) (kd:∀x∈A,Lit n x) (hs:∀σ,kX σ F↔kX σ G):zO n L=zO n M:=by
 have key:∀v:Nat,1≤v→v≤n→pb L v=pb M v:=by
  intro v
  induction v using Nat.strongRecOn with
  |ind v ih=>
   intro q1 q2
   have e1:=fun h=>h1.min (pb M) ((hs _).2 h2.sat) (fun x hx=>(pD h2.ix h2.full (kd x hx)).2 (h2.p8 x hx)) v q1 q2 (fun u p1 p2=>(ih u p2 p1 aJ).symm) h
   have e2:=fun h=>h2.min (pb L) ((hs _).1 h1.sat) (fun x hx=>(pD h1.ix h1.full (kd x hx)).2 (h1.p8 x hx)) v q1 q2 (fun u p1 p2=>ih u p2 p1 aJ) h
   cases ha:pb L v with
   |true=>rw[e1 ha]
   |false=>
    cases hb:pb M v with
    |false=>rfl
    |true=>rw[e2 hb] at ha;cases ha
 unfold zO
 apply dO
 intro i hi
 exact key (i+1) aJ (by have:=dG.1 hi;omega)
theorem fv.same {n:Nat} {F G:List (List Int)} {A:List Int} {q r:Int×List Bool×List Int×List (List Int)} (hq:fv n F A q) (hr:fv n G A r) (hn:n≤8) (hA:∀x∈A,Lit n x) (hs:∀σ,kX σ F↔kX σ G):q.1=r.1∧(q.1=1→q.2.1=r.2.1):=by
 have Ub:q.1=1↔r.1=1:=by
  rw[hq.iff hn hA,hr.iff hn hA]
  constructor
  ·rintro⟨v,p1,p2,p3⟩
   exact⟨v,p1,(mN hr.Bb).1 ((hs _).1 ((mN hq.Bb).2 p2)),p3⟩
  ·rintro⟨v,p1,p2,p3⟩
   exact⟨v,p1,(mN hq.Bb).1 ((hs _).2 ((mN hr.Bb).2 p2)),p3⟩
 have h1:=hq.one hn
 have h2:=hr.one hn
 refine⟨by omega,fun h=>?_⟩
 obtain⟨L,l1,l2,_⟩:=hq.sat h
 obtain⟨M,m1,m2,_⟩:=hr.sat (Ub.1 h)
 rw[l2,m2]
 exact l1.uniq m1 hA hs
theorem fv.Rx {n:Nat} {F:List (List Int)} {A:List Int} {q:Int×List Bool×List Int×List (List Int)} (h:fv n F A q):∀c∈q.2.2.2,c.length≤2*n+2:=fun c hc=>by
 obtain⟨t,h1,_,_,e⟩:=h
 rw[e] at hc
 have:=jN (n:=2*n+2) (l:=c.map eQ) (by
  unfold List.Nodup
  rw[dB]
  exact(h1.nd c hc).imp_of_mem fun {a b} ha hb qh e=>qh (gU (h1.lits c (bX.2 (.inr hc)) a ha) (h1.lits c (bX.2 (.inr hc)) b hb) (by rw[e]))) fun v hv=>by
  obtain⟨a,ha,rfl⟩:=bx.1 hv
  have:=hY (h1.lits c (bX.2 (.inr hc)) a ha)
  omega
 simpa using this
theorem oE {n:Nat} {c:List Int} (h:∀x∈c,Lit n x):eX n c=true:=by
 unfold eX
 rw[bD]
 intro x hx
 obtain⟨_,_,_⟩:=h x hx
 simp only[decide_eq_true_eq]
 omega
attribute [local irreducible] AW a_ gb fq AR fz fk fJ fX canon iV j3 nP pf mr eX iM gR jg hO ma
theorem He (a:List Bool) (ha:a.length≤1000000):Fn Tryz.prog 10 [.pv (IK a),.pv (IK a)] (fh true):=by
 refine Fn.enter (n:=26) Tryz.func10 rfl rfl rfl rfl rfl (by decide) fun g fD fB=>?_;(try refine nz ?_)
 refine AW.jE 0 rfl fun hlen=>?_
 (refine On ?_;refine ph ?_;refine qw ?_;refine Aa ?_)
 (refine nz ?_;apply AW.gN [0,1] [] (fun i:Nat=>([(5,eV i)]:List (Nat×AV))) (fun i:Nat=>([]:List (Nat×Option Ob))) (fun i:Nat=>i≤a.length) (fun i:Nat=>a.length - i) (0);(conv=>lhs;simp only[Nf.nN,Nf.all,di,reduceAdd,reduceSub]);(all_goals skip))
 ·exact bm _
 ·exact fp rfl (by(refine aC ?_;(iterate 2 refine aC ?_);exact trivial)) (by(exact trivial)) rfl
 rintro i hi
 by_cases fm:i<a.length
 ·cases hc:a[i] with
  |true=>
   (refine yP ?_;(iterate 2 refine zm ?_);refine BV ?_;refine zo ?_;(with_reducible apply AW.fY);exact rfl;exact rfl;kernel_rfl;(with_reducible assumption);(iterate 2 refine zm ?_);refine aA ?_;refine zr ?_;(iterate 2 refine zm ?_);refine aA ?_;refine zr ?_;refine a_.Qz rfl rfl rfl rfl rfl rfl ?_;refine zd ?_;(focus ((with_reducible apply AW.qB);exact rfl;exact rfl;all_goals intro qq));refine lf ?_;refine wu ?_;(all_goals skip);rotate_left;refine K1 ?_;(all_goals skip);rotate_left)
   all_goals first|exact absurd rfl qq|exact⟨i+1,by omega,by omega,fp rfl (by(refine aC ?_;exact Bs)) (by(exact trivial)) rfl⟩
  |false=>
   (refine yP ?_;(iterate 2 refine zm ?_);refine BV ?_;refine zo ?_;(with_reducible apply AW.fY);exact rfl;exact rfl;kernel_rfl;(with_reducible assumption);(iterate 2 refine zm ?_);refine aA ?_;refine zr ?_;(iterate 2 refine zm ?_);refine aA ?_;refine zr ?_;refine a_.Qz rfl rfl rfl rfl rfl rfl ?_;refine zd ?_;(focus ((with_reducible apply AW.qB);exact rfl;exact rfl;all_goals intro qq));refine lf ?_;refine wu ?_;(all_goals skip);rotate_left;refine K1 ?_;(all_goals skip);rotate_left)
   all_goals first|exact absurd rfl qq|exact⟨i+1,by omega,by omega,fp rfl (by(refine aC ?_;exact Bs)) (by(exact trivial)) rfl⟩
 ·(refine yP ?_;(iterate 2 refine zm ?_);refine JM ?_;refine lf ?_)
  (apply e6;(exact gk.one (.tmp rfl rfl));(refine Le.fh ?_;(rfl)))
end Go.Ab
/- Assignments by number. -/
namespace Go.Ab
open Go Go.Proofs
def kI:Nat→Nat→List Bool
 |0,_=>[]
 |n+1,k=>kI n (k / 2)++ [decide (k % 2=1)]
theorem n3:∀n k,(kI n k).length=n
 |0,_=>rfl
 |n+1,k=>by simp [kI,n3 n]
theorem mG {n k u:Nat} (h:u<n):(kI (n+1) k).getD u false=(kI n (k / 2)).getD u false:=by
 rw[kI,c8,c8,List.getElem?_append_left (by rw[n3];exact h)]
theorem yf {n k:Nat}:(kI (n+1) k).getD n false=decide (k % 2=1):=by
 rw[kI,c8,aV (by rw[n3];exact aP _),n3,Nat.sub_self]
 rfl
theorem BS:∀{n i m:Nat},i<m→m<2 ^ n→∃v,v<n∧(∀u,u<v→(kI n i).getD u false=(kI n m).getD u false)∧(kI n i).getD v false=false∧(kI n m).getD v false=true
 |0,i,m,h1,h2=>by simp at h2;omega
 |n+1,i,m,h1,h2=>by
  rw[dP] at h2
  by_cases h:i / 2<m / 2
  ·obtain⟨v,q1,q2,q3,q4⟩:=BS (n:=n) h (by omega)
   exact⟨v,by omega,fun u hu=>by rw[mG aJ,mG aJ];exact q2 u hu,by rw[mG q1];exact q3,by rw[mG q1];exact q4⟩
  ·have he:i / 2=m / 2:=by omega
   refine⟨n,by omega,fun u hu=>by rw[mG hu,mG hu,he],?_,?_⟩
   ·rw[yf,decide_eq_false_iff_not];omega
   ·rw[yf,decide_eq_true_eq];omega
theorem B1:∀{n:Nat} {l:List Bool},l.length=n→∃k,k<2 ^ n∧kI n k=l
 |0,l,h=>⟨0,by simp,by rw[bj h];rfl⟩
 |n+1,l,h=>by
  obtain⟨k,h1,h2⟩:=B1 (n:=n) (l:=l.dropLast) (by rw[List.length_dropLast,h];rfl)
  have fW:l≠ []:=by intro e;rw[e] at h;simp at h
  have hl:=List.dropLast_concat_getLast fW
  rw[dP]
  cases hb:l.getLast fW with
  |true=>
   refine⟨2*k+1,by omega,?_⟩
   rw[kI,show(2*k+1) / 2=k by omega,h2,decide_eq_true (show(2*k+1) % 2=1 by omega),← hb]
   exact hl
  |false=>
   refine⟨2*k,by omega,?_⟩
   rw[kI,show(2*k) / 2=k by omega,h2,decide_eq_false (show ¬(2*k) % 2=1 by omega),← hb]
   exact hl
def BB (n:Nat) (cl:List (List Int)) (a:List Int) (i:Nat):Bool:=allM (kI n i) cl && n5 (kI n i) a
end Go.Ab
/- The solver's proof is one for the checker;the least assignment's number. -/
namespace Go.Ab
open Go Go.Proofs
set_option maxRecDepth 20000
set_option maxHeartbeats 4000000
theorem B8 {e:py} {s:nM} {c:List Int} (h1:eX s.vars c=true) (h2:gR s.vars s.cl c=true):hO e s ⟨1,c,0⟩=some (vV s c):=by
 rw[zH rfl,mT,if_pos ⟨rfl,h1,h2⟩]
theorem tA {e:py} {n:Nat} {F P:List (List Int)} (PK:oX F P) (hl:∀c∈F++P,∀x∈c,Lit n x):∀(k i:Nat),i+k=P.length→∀s:nM,s.vars=n→s.cl=F++P.take i→(jg e s (jh (P.drop i))).2=k∧(jg e s (jh (P.drop i))).1.ref=(s.ref||(P.drop i).any fun c=>decide ((c.length:Int)=0))
 |0,i,h,s,h1,h2=>by
  rw[List.drop_of_length_le (show P.length≤i by omega)]
  exact⟨rfl,by simp [jh,jg]⟩
 |k+1,i,h,s,h1,h2=>by
  have hi:i<P.length:=by omega
  have XW:∀x∈P[i],Lit n x:=hl _ (bX.2 (.inr (cZ hi)))
  have hr:gR n (F++P.take i) P[i]=true:=(H5 aJ (fun d hd=>oE (hl d (by
   rcases bX.1 hd with q|q
   ·exact bX.2 (.inl q)
   ·exact bX.2 (.inr (List.mem_of_mem_take q))))) (oE XW)).2 (PK i hi)
  have hs:hO e s ⟨1,P[i],0⟩=some (vV s P[i]):=B8 (by rw[h1];exact oE XW) (by rw[h1,h2];exact hr)
  have ih:=tA (e:=e) PK hl k (i+1) aJ (vV s P[i]) h1 (by
   show s.cl++ [P[i]]=_
   rw[h2,List.append_assoc,← dp hi])
  rw[List.drop_eq_getElem_cons hi,show jh (P[i]::P.drop (i+1))=⟨1,P[i],0⟩::jh (P.drop (i+1)) from rfl,ya hs]
  refine⟨by rw[ih.1],?_⟩
  rw[ih.2,List.any_cons]
  show((s.ref||_)||_)=_
  rw[Bool.or_assoc]
section
variable {n:Nat} {F:List (List Int)} {A:List Int} {q:Int×List Bool×List Int×List (List Int)}
theorem fv.run {e:py} (h:fv n F A q):(jg e (iE n F) (jh q.2.2.2)).2=q.2.2.2.length∧(jg e (iE n F) (jh q.2.2.2)).1.ref=((F.any fun c=>decide ((c.length:Int)=0))||q.2.2.2.any fun c=>decide ((c.length:Int)=0)):=by
 obtain⟨t,h1,_,_,e⟩:=h
 rw[e]
 exact tA h1.sC h1.lits t.proof.length 0 aJ (iE n F) rfl (by simp [iE])
theorem fv.core (h:fv n F A q) (h2:q.1=2):∃P,q.2.2.2=P++ [q.2.2.1.map fun y=> -y]∧(∀y∈q.2.2.1,y∈A)∧(∀y∈q.2.2.1,Lit n y)∧q.2.2.1.length≤2*n+2:=by
 have IL:=h.Rx
 obtain⟨t,h1,_,e3,e⟩:=h
 rcases h1.res with ⟨e1,_⟩|⟨_,_,P,e2,e4,_,e5⟩|⟨e1,_⟩
 ·omega
 ·rw[e3]
  refine⟨P,by rw[e,e2],e4,e5,?_⟩
  have:=IL (t.core.map fun y=> -y) (by rw[e,e2];simp)
  simpa using this
 ·omega
theorem fv.UY (h:fv n F A q):∀c∈q.2.2.2,∀x∈c,Lit n x:=by
 obtain⟨t,h1,_,_,e⟩:=h
 rw[e]
 exact fun c hc=>h1.lits c (bX.2 (.inr hc))
theorem fv.plen (h:fv n F A q):q.2.2.2.length≤20000:=by
 obtain⟨t,h1,_,_,e⟩:=h
 rw[e]
 exact h1.plen2
theorem fv.vr (h:fv n F A q) (h2:q.1=2) (hA:A=[]):vr n F [] (jh q.2.2.2)=true:=by
 obtain⟨P,e,hc,_,_⟩:=h.core h2
 have hr:=h.run (e:=⟨n,F,[]⟩)
 have Am:q.2.2.1=[]:=by
  cases e2:q.2.2.1 with
  |nil=>rfl
  |cons x l=>
   have:=hc x (by rw[e2];simp)
   rw[hA] at this;simp at this
 unfold Go.Ab.vr
 rw[hr.1,hr.2,aZ,decide_eq_true_eq]
 refine⟨by unfold jh;rw[a6],?_⟩
 rw[Bool.or_eq_true]
 right
 rw[df]
 exact⟨_,by rw[e];exact bX.2 (.inr (cq.2 rfl)),by rw[Am];rfl⟩
end
theorem Mb {v:List Bool} {u:Nat}:DG v (u+1)=v.getD u false:=rfl
section
variable {n:Nat} {F:List (List Int)} {A:List Int} {q:Int×List Bool×List Int×List (List Int)}
theorem fv.least (h:fv n F A q) (hn:n≤8) (hA:∀x∈A,Lit n x) {i:Nat} (hg:BB n F A i=true) (HD:∀j,j<i→BB n F A j=false):q.1=1∧q.2.1=kI n i:=by
 unfold BB at hg
 rw[aZ] at hg
 have h1:q.1=1:=(h.iff hn hA).2 ⟨_,n3 n i,hg.1,hg.2⟩
 refine⟨h1,?_⟩
 obtain⟨L,hL,e,_⟩:=h.sat h1
 obtain⟨q1,q2⟩:=h.Hs h1
 obtain⟨m,hm,em⟩:=B1 q1
 have Tz:BB n F A m=true:=by
  unfold BB
  rw[em,q2,Bool.true_and]
  unfold n5
  rw[bD]
  intro x hx
  rw[e,← nY (hA x hx)]
  exact(jx.congr (hA x hx) fun u h1 h2=>(uV h1 h2).symm).1 ((pD hL.ix hL.full (hA x hx)).2 (hL.p8 x hx))
 rw[← em]
 by_cases TD:m=i
 ·rw[TD]
 ·exfalso
  have GK:i<m:=by
   by_cases fm:m<i
   ·rw[HD m fm] at Tz;cases Tz
   ·omega
  obtain⟨v,v1,v2,v3,v4⟩:=BS GK hm
  have sH:∀u,u<n→pb L (u+1)=(kI n m).getD u false:=fun u hu=>by
   rw[em,e,← uV (n:=n) aJ aJ];rfl
  have:=hL.min (DG (kI n i)) ((mN h.Bb).2 hg.1) (fun x hx=>(nY (hA x hx)).2 (bD.1 hg.2 x hx)) (v+1) aJ aJ (fun u u1 u2=>by
   obtain⟨w,rfl⟩:∃w,u=w+1:=⟨u - 1,by omega⟩
   rw[sH w aJ]
   exact v2 w aJ) (by rw[sH v v1];exact v4)
  rw[Mb,v3] at this
  cases this
end
end Go.Ab
/- Chapter 19:circuits,in plain terms. -/
namespace Go.Ab.N19
open Go Go.Proofs Go.Ab
set_option maxRecDepth 20000
set_option maxHeartbeats 4000000
structure iA where
 k:Int
 a:Int
 b:Int
deriving DecidableEq
def ZR (g:iA) (i:Nat):Prop:=(g.k=1∧1≤g.a∧g.a≤8∧g.b=0)∨(g.k=2∧2≤g.a∧g.a<g.b∧g.b<2*(i:Int)∧g.a / 2≠g.b / 2)
structure oZ (gs:List iA):Prop where
 zero:gs[0]? =some ⟨0,0,0⟩
 ok:∀(i:Nat) (h:i<gs.length),i≠0→ZR gs[i] i
def EW (gs:List iA) (r:Int):Prop:=0≤r∧r<2*(gs.length:Int)
theorem oZ.pos {gs:List iA} (h:oZ gs):0<gs.length:=(List.getElem?_eq_some_iff.1 h.zero).1
theorem EW.mono {gs gs':List iA} {r:Int} (h:EW gs r) (hl:gs.length≤gs'.length):EW gs' r:=by unfold EW at*;omega
def Ue (vals:List Bool) (a:Int):Bool:=vals.getD (a - 1).toNat false
def Qf (done:List Bool) (r:Int):Bool:=done.getD (r / 2).toNat false==decide (r % 2=0)
def Jn (vals done:List Bool) (g:iA):Bool:=if g.k=1 then Ue vals g.a else if g.k=2 then Qf done g.a && Qf done g.b else true
def we (gs:List iA) (vals:List Bool):Nat→List Bool
 |0=>[]
 |i+1=>we gs vals i++ [Jn vals (we gs vals i) (gs.getD i ⟨0,0,0⟩)]
theorem tC (gs:List iA) (vals:List Bool):∀i,(we gs vals i).length=i
 |0=>rfl
 |i+1=>by rw[we,bW,tC gs vals i];rfl
def yH (gs:List iA) (vals:List Bool) (i:Nat):Bool:=(we gs vals (i+1)).getD i false
def Mx (gs:List iA) (vals:List Bool) (r:Int):Bool:=yH gs vals (r / 2).toNat==decide (r % 2=0)
theorem Lm (gs:List iA) (vals:List Bool) (i:Nat):yH gs vals i=Jn vals (we gs vals i) (gs.getD i ⟨0,0,0⟩):=by
 unfold yH
 rw[we,c8,aV (by rw[tC];omega),tC]
 simp
theorem L_ {gs:List iA} (vals:List Bool) {i:Nat} (hi:i<gs.length) (hk:gs[i].k=1):yH gs vals i=Ue vals gs[i].a:=by
 have hg:gs.getD i ⟨0,0,0⟩=gs[i]:=by rw[c8,a8 hi];rfl
 rw[Lm,hg,Jn,if_pos hk]
end Go.Ab.N19
/- Chapter 19:the gates that a reference needs,in plain terms. -/
namespace Go.Ab.N19
open Go Go.Proofs Go.Ab
set_option maxRecDepth 20000
set_option maxHeartbeats 4000000
def sL (gs:List iA) (i:Nat):iA:=gs.getD i ⟨0,0,0⟩
def visitM (gs:List iA):Nat→List Int→Nat→List Int
 |0,met,_=>met
 |n+1,met,i=>if (sL gs i).k=2∧¬(i:Int)∈met then visitM gs n (visitM gs n (met++ [(i:Int)]) ((sL gs i).a / 2).toNat) ((sL gs i).b / 2).toNat else met
theorem wN {gs:List iA} {i:Nat} (h:i<gs.length):sL gs i=gs[i]:=by unfold sL;rw[c8,a8 h];rfl
theorem Io {gs:List iA} {i:Nat} (h:(sL gs i).k=2):i<gs.length:=by
 by_cases hi:i<gs.length
 ·exact hi
 ·unfold sL at h
  rw[c8,cE aJ] at h
  simp at h
theorem oZ.and {gs:List iA} (hc:oZ gs) {i:Nat} (hk:(sL gs i).k=2):2≤(sL gs i).a∧(sL gs i).a<(sL gs i).b∧(sL gs i).b<2*(i:Int)∧(sL gs i).a / 2≠(sL gs i).b / 2:=by
 have hi:=Io hk
 rw[wN hi] at hk ⊢
 have h0:i≠0:=fun e=>by
  subst e
  have:=hc.zero
  rw[a8 hi] at this
  rw[Option.some.inj this] at hk
  simp at hk
 rcases hc.ok i hi h0 with h|h
 ·omega
 ·exact⟨h.2.1,h.2.2.1,h.2.2.2.1,h.2.2.2.2⟩
theorem oZ.kind {gs:List iA} (hc:oZ gs) {i:Nat} (hi:i<gs.length) (h0:i≠0):((sL gs i).k=1∧1≤(sL gs i).a∧(sL gs i).a≤8)∨(sL gs i).k=2:=by
 rw[wN hi]
 rcases hc.ok i hi h0 with h|h
 ·exact .inl ⟨h.1,h.2.1,h.2.2.1⟩
 ·exact .inr h.1
noncomputable def EP (gs:List iA) (r:Int):List Int:=canon (visitM gs gs.length [] (r / 2).toNat)
structure Ix (gs:List iA) (r:Int) (G:List Int):Prop where
 inc:PZ G
 and:∀x∈G,0≤x∧x≤r / 2∧(sL gs x.toNat).k=2
 self:(sL gs (r / 2).toNat).k=2→r / 2∈G
 kids:∀x∈G,((sL gs ((sL gs x.toNat).a / 2).toNat).k=2→(sL gs x.toNat).a / 2∈G)∧((sL gs ((sL gs x.toNat).b / 2).toNat).k=2→(sL gs x.toNat).b / 2∈G)
end Go.Ab.N19
/- Chapter 19:the formula of a reference,in plain terms. -/
namespace Go.Ab.N19
open Go Go.Proofs Go.Ab
set_option maxRecDepth 20000
set_option maxHeartbeats 4000000
def q_ (w:List Bool) (l:Int):Bool:=w.getD (max l (-l) - 1).toNat false==decide (0<l)
def eQ (G:List Int) (x:Int):Nat:=G.findIdx (fun y=>decide (y=x))
theorem hY {G:List Int} {x:Int} (h:x∈G):eQ G x<G.length:=by
 unfold eQ
 rw[List.findIdx_lt_length]
 exact⟨x,h,by simp⟩
def B2 (gs:List iA) (n:Int) (G:List Int) (x:Int):Int:=if x∈G then n+1+(eQ G x:Nat) else (sL gs x.toNat).a
def xw (gs:List iA) (n:Int) (G:List Int) (r:Int):Int:=if r % 2=1 then -(B2 gs n G (r / 2)) else B2 gs n G (r / 2)
structure Fb (gs:List iA) (G:List Int) (x:Int):Prop where
 lo:2≤x
 hi:x<2*(gs.length:Int)
 and:(sL gs (x / 2).toNat).k=2→x / 2∈G
theorem I1 {gs:List iA} {n:Int} {G:List Int} {x:Int} (h:x∈G):B2 gs n G x=n+1+(eQ G x:Nat):=if_pos h
theorem Ix.own {gs:List iA} {r:Int} {G:List Int} (h:Ix gs r G) {x:Int} (hx:x∈G) (hc:oZ gs):Fb gs G (2*x):=by
 obtain⟨h0,_,hk⟩:=h.and x hx
 obtain⟨h1,h2,h3,h4⟩:=hc.and hk
 have:=Io hk
 exact⟨by omega,by omega,fun _=>by rwa [show 2*x / 2=x by omega]⟩
theorem Fb.var {gs:List iA} (hc:oZ gs) {G:List Int} {x:Int} (h:Fb gs G x) {n:Int} (hn:8≤n):1≤B2 gs n G (x / 2)∧B2 gs n G (x / 2)≤n+(G.length:Nat):=by
 unfold B2
 by_cases hx:x / 2∈G
 ·rw[if_pos hx]
  have:=hY hx
  omega
 ·rw[if_neg hx]
  have h1:=h.lo
  have h2:=h.hi
  rcases hc.kind (i:=(x / 2).toNat) aJ aJ with h3|h3
  ·omega
  ·exact absurd (h.and h3) hx
theorem Fb.lit {gs:List iA} (hc:oZ gs) {G:List Int} {x:Int} (h:Fb gs G x) {n:Int} (hn:8≤n):xw gs n G x≠0∧xw gs n G x≤n+(G.length:Nat)∧ -(n+(G.length:Nat):Int)≤xw gs n G x:=by
 have:=h.var hc hn
 unfold xw
 split<;>omega
theorem Gg {w:List Bool} {l:Int} (h:l≠0):q_ w (-l)=!(q_ w l):=by
 unfold q_
 rw[show max (-l) (- -l)=max l (-l) by omega]
 by_cases h0:0<l
 ·rw[decide_eq_true h0,decide_eq_false (show ¬0< -l by omega)]
  cases w.getD (max l (-l) - 1).toNat false<;>rfl
 ·rw[decide_eq_false h0,decide_eq_true (show 0< -l by omega)]
  cases w.getD (max l (-l) - 1).toNat false<;>rfl
theorem FW {w:List Bool} {l:Int} (h:1≤l):q_ w l=w.getD (l - 1).toNat false:=by
 unfold q_
 rw[show max l (-l)=l by omega,decide_eq_true (show 0<l by omega)]
 cases w.getD (l - 1).toNat false<;>rfl
def S_ (gs:List iA) (n:Nat) (G:List Int) (w:List Bool):Prop:=∀x∈G,w.getD (n+eQ G x) false=yH gs (w.take n) x.toNat
theorem S_.lit {gs:List iA} (hc:oZ gs) {n:Nat} {G:List Int} {w:List Bool} (hw:n≤w.length) (hn:8≤n) {x:Int} (h:Fb gs G x) (hr:x / 2∈G→w.getD (n+eQ G (x / 2)) false=yH gs (w.take n) (x / 2).toNat):q_ w (xw gs n G x)=Mx gs (w.take n) x:=by
 have hv:=h.var hc (n:=n) (by omega)
 have key:q_ w (B2 gs n G (x / 2))=yH gs (w.take n) (x / 2).toNat:=by
  rw[FW hv.1]
  by_cases hx:x / 2∈G
  ·rw[I1 hx,← hr hx]
   congr 1
   omega
  ·have h1:=h.lo
   have h2:=h.hi
   rcases hc.kind (i:=(x / 2).toNat) aJ aJ with h3|h3
   ·rw[L_ _ (show(x / 2).toNat<gs.length by omega) (by rw[← wN aJ];exact h3.1),Ue,B2,if_neg hx,wN aJ]
    rw[wN aJ] at h3
    rw[c8,c8,List.getElem?_take,if_pos aJ]
   ·exact absurd (h.and h3) hx
 unfold xw Mx
 by_cases h2:x % 2=1
 ·rw[if_pos h2,Gg aJ,key,decide_eq_false (show ¬x % 2=0 by omega)]
  cases yH gs (w.take n) (x / 2).toNat<;>rfl
 ·rw[if_neg h2,key,decide_eq_true (show x % 2=0 by omega)]
  cases yH gs (w.take n) (x / 2).toNat<;>rfl
end Go.Ab.N19
