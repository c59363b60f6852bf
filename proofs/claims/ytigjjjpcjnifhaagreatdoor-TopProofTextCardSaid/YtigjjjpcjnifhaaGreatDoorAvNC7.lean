/- The solver: the search, walked. -/
import Derived.Test.YtigjjjpcjnifhaaGreatDoorAvB8
import Derived.Test.YtigjjjpcjnifhaaGreatDoorAbZ
import Derived.Test.YtigjjjpcjnifhaaGreatDoorAbL3
import Derived.Test.YtigjjjpcjnifhaaGreatDoorAvS5
import Derived.Test.YtigjjjpcjnifhaaGreatDoorAbL4
import Derived.Test.YtigjjjpcjnifhaaGreatDoorAbL2
import Derived.Test.YtigjjjpcjnifhaaGreatDoorAvC2
import Derived.Test.YtigjjjpcjnifhaaGreatDoorAvA2
import Derived.Test.YtigjjjpcjnifhaaGreatDoorAvS7
import Derived.Lib.ItoaNum
import Derived.Lib.SplitLaws
import Derived.Lib.IndexBytes
set_option linter.unusedSimpArgs false
set_option linter.unusedVariables false
open List renaming getElem_mem→cZ,length_append→bV,length_singleton→dC,pairwise_map→dB,mem_map→bw,length_map→a6,eq_nil_of_length_eq_zero→bj,length_take→dI,getD_eq_getElem?_getD→c8,getElem?_eq_none→cD,length_take_le→dR,take_succ_eq_append_getElem→dp,map_append→cU,take_length→da,replicate→bY,range→bc,mem_append→bW,all_eq_true→bC,any_eq_true→df,map_congr_left→dS,mem_range→dG,mem_singleton→cp,map_map→cT,length_cons→dP,getElem?_append_right→aV,append_assoc→dV,getElem?_eq_getElem→a8
open Nat renaming reduceBEq→di,zero_le→bk,blt→aY,le_refl→aP,pow_succ→dU
open Bool renaming and_eq_true→aZ
namespace Go.Ab
open Go Go.Proofs
open Nat (reduceAdd reduceSub)
set_option maxRecDepth 20000
set_option maxHeartbeats 8000000
attribute [local irreducible] gC AW a_ ga ft AR fB fp fG fU jw lA eW
theorem CU (n:Nat) (s:SR) (t:Nat) (ht:t<s.marks.length) (hn:n≤20000) (hv:s.value.length=n+1) (iK:j1 n (s.ll 0)) (mk:∀m∈s.marks,0≤m∧m.toNat≤(s.ll 0).length) (Rv:0≤s.low∧s.low≤1000000):mg Tryz.prog 51 11 (hX s) [.ptr 0 0,e7 t] (hX (gr s t)) (.gM []):=by
 have hl:=iK.len
 exact zR s (FF s t) t (K3 s t ht (mk _ (cZ ht)) aJ Rv fun x hx=>by
  obtain⟨_,_,_⟩:=iK.xz x hx
  refine⟨by omega,?_⟩
  rw[hv]
  unfold fm;omega)
theorem wu (n:Nat) (s:SR) (hs:fW n s) (Rv:wy n s):∃s':SR,mg Tryz.prog 51 11 (hX s) [.ptr 0 0,e7 0] (hX s') (.gM [])∧s'.proof=s.proof∧s'.model=s.model∧s'.core=s.core:=by
 by_cases h:0<s.marks.length
 ·refine⟨gr s 0,?_,rfl,rfl,rfl⟩
  obtain⟨k,q1,q2,q3,_⟩:=Rv
  have hn:=hs.hn
  exact CU n s 0 h hs.hn (by rw[hs.val,ki]) hs.iK (fun m hm=>by have:=hs.n3 m hm;have:=hs.hd;omega) (by omega)
 ·refine⟨FQ s,zR s s 0 (xi s 0 aJ),rfl,rfl,rfl⟩
theorem IC (n:Nat) (F:List (List Int)) (k:Nat) (s:SR) (hS:l_ n F k s) (hk:k≤60000) (A:List Int) (hA:∀x∈A,Lit n x) (YH:A.length≤50000) (fuel:Nat) (IU:0<fuel) (UQ:fuel≤20000):uo Tryz.prog 24 11 (hX s) [.ptr 0 0,.pv (jX A),e7 (fuel:Nat)] (fun q:SR×Int=>kC n F A fuel q.1 q.2) (fun q=>hX q.1) (fun q=>e7 q.2):=by
 have Ww:=hS.sj (A:=A) IU
 obtain⟨s1,xo⟩:∃s1,s1={s with core:=[],model:=[]}:=⟨_,rfl⟩
 have hbox:hX {s with core:=[],model:=[]}=hX s1:=by rw[xo]
 rw[← xo] at Ww
 have jh:=Ww.si.inv
 have rU:=jh.hn
 have kM:=CZ n s1 A rU (by rw[jh.val,ki]) hA
 have Xy:s1.marks=[]:=by rw[xo];exact hS.marks
 have RD:=zR s1 s1 0 (xi s1 0 (by rw[Xy];simp))
 rw[JP jh] at RD
 simp only[hX,hZ] at kM RD ⊢
 refine uo.enter (n:=151) Tryz.func24 rfl rfl rfl rfl rfl (by decide) rfl (fun _=>rfl) fun g fE fD=>?_;refine qz ?_
 refine AW.kL 1 rfl fun hlen=>?_
 (refine zq ?_;refine kh ?_;refine AW.scope ?_;refine jB ?_;refine zV ?_;refine a_.b_ 94 9 14 rfl rfl rfl rfl ?_;(with_reducible apply a_.gv);(iterate 5 exact rfl);exact ag;(iterate 3 exact rfl);(with_reducible assumption);refine JY ?_;refine a_.b_ 94 8 13 rfl rfl rfl rfl ?_;(with_reducible apply a_.gv);(iterate 5 exact rfl);exact ag;(iterate 3 exact rfl);(with_reducible assumption);refine rM ?_;refine zo ?_;refine AW.lE 2 ?_)
 refine Stop.go ?_
 refine AW.fy (δ':=⟨151,[(0,.ptr 0 0),(1,.pv (jX A)),(2,e7 (fuel:Nat)),(1000,.agg [.ptr 0 0])],hX s1,11⟩) ?_ ?_
 ·subst xo
  exact fy rfl (by(refine aC ?_;refine aG ?_;refine aD ?_;refine aC ?_;exact trivial)) (by(refine⟨.box _ rfl ?_,?_⟩;(iterate 3 refine aE ?_);refine aD ?_;refine aE ?_;refine aD ?_;(iterate 2 refine aE ?_);(iterate 3 refine aD ?_);refine aE ?_;refine aD ?_;(iterate 2 refine⟨.KU (by first|rfl),?_⟩);exact trivial;(iterate 3 refine aF ?_);refine aH ?_;(iterate 2 refine aF ?_);refine aH ?_;refine aF ?_;refine aH ?_;refine aF ?_;exact trivial)) rfl
 simp only[hX,hZ]
 have hf0':¬(fuel:Int)≤0:=by omega
 (refine B6 ?_;refine zm ?_;refine zX (kM) ?_;refine kA ?_;refine a_.not rfl rfl rfl ?_;refine xH ?_;refine a_.leq rfl rfl rfl rfl rfl ?_;refine a_.iy rfl rfl rfl rfl rfl rfl ?_;refine vD ?_;refine uX ?_;refine zX (RD) ?_;refine kA ?_;refine lz ?_;refine rD ?_;refine AW.label ?_;refine gO ?_;refine zo ?_;refine AW.block ?_)
 (refine J0 ?_;apply AW.gP [0,1,2,1000] [1,2,3,5,6,8,10] (fun q:SR×Nat=>([(7,e7 (q.2:Nat))]:List (Nat×AV))) (fun q:SR×Nat=>([(0,some (.box [.own 1 3 1 ((q.1.value).map encI),.own 2 3 1 ((q.1.level).map encI),.own 3 3 1 ((q.1.reason).map encI),.pv (.lit (q.1.hl 0)),.own 5 3 1 ((q.1.marks).map encI),e7 (q.1.low),.own 6 29 1 (gC q.1.nc q.1.hc),.own 8 29 1 (gC q.1.nw q.1.hw),e7 (q.1.head),e7 (q.1.added),fu (q.1.broken),.own 10 65 3 ((q.1.proof).map mI),e7 0,.pv (jX (q.1.model)),.pv (jX (q.1.core))])),(4,some (.ff 3 (kl q.1.hl q.1.ll))),(7,some (.ff 3 (kl q.1.hc q.1.cl))),(9,some (.ff 3 (kl q.1.hw q.1.wl)))]:List (Nat×Option Ob))) (fun q:SR×Nat=>SJ n F A k fuel q.1 q.2) (fun q:SR×Nat=>(fuel - q.2)*(A.length+n+2)+(A.length - q.1.marks.length)+(n - (q.1.ll 0).length)) ((s1,0));(conv=>lhs;simp only[Nf.n7,Nf.all,di,reduceAdd,reduceSub]);(all_goals skip))
 ·exact Ww
 ·exact fy rfl (by(refine aD ?_;refine aC ?_;refine aG ?_;refine aD ?_;refine aC ?_;exact trivial)) (by(refine⟨.box _ rfl ?_,?_⟩;(iterate 3 refine aE ?_);refine aD ?_;refine aE ?_;refine aD ?_;(iterate 2 refine aE ?_);(iterate 3 refine aD ?_);refine aE ?_;refine aD ?_;(iterate 2 refine aG ?_);exact trivial;(iterate 3 refine aH ?_);(iterate 7 refine aF ?_);exact trivial)) rfl
 rintro⟨σ,met⟩ hσ
 simp only at hσ
 have Yu:=hσ.si.inv
 have hmf:=hσ.mf
 obtain⟨K7,hp3⟩:=hσ.plen
 have sL:=hσ.lv.len Yu
 have hP:=Al n σ Yu (by omega)
 have hpl':¬(20000:Int)≤(σ.proof.length:Int):=by omega
 simp only[hX,hZ] at hP
 (refine AW.block ?_;refine zo ?_;refine jB ?_;refine oF ?_;refine a_.b_ 94 6 11 rfl rfl rfl rfl ?_;refine zb ?_;refine a_.iP rfl rfl rfl rfl ?_;refine a_.geq rfl rfl rfl rfl rfl ?_;refine vD ?_;refine uX ?_;(with_reducible apply a_.kc (hf:=hP));(with_reducible assumption);(iterate 3 exact rfl);exact aq;exact ak;(intro x_;exact rfl);exact rfl;exact al;(intro x_;exact al);(intro x_;exact rfl);exact rfl;(intro x_ pI);refine kA ?_;refine kh ?_;refine AW.block ?_;refine AW.lE 14 ?_)
 obtain⟨τ,r⟩:=x_
 have hτ:=hσ.prop pI
 have me:=hτ.si.inv
 have Gt:=pI.ext.marks
 have E3:(σ.ll 0).length≤(τ.ll 0).length:=by obtain⟨ys,e⟩:=pI.ext.ll;rw[e,bV];omega
 have D0:=pI.res
 have kz:=me.iK.len
 have yh:=me.nc
 have C6:τ.value.length=n+1:=by rw[me.val,ki]
 obtain⟨Wc,_⟩:=hτ.plen
 have XC:=hτ.lv.len me
 simp only at hτ me Gt E3 D0 kz yh C6 Wc XC ⊢
 refine Stop.go ?_
 by_cases Ub:τ.broken=true∨(r≠ -1∧τ.marks=[])
 ·have S1:so (F++τ.proof) K0:=by
   rcases Ub with q|⟨q1,q2⟩
   ·exact hτ.si.ka.bad q
   ·rcases D0 with ⟨q,_⟩|⟨j,hj,_,hf⟩
    ·exact absurd q q1
    ·exact hτ.si.ka.RZ me q2 hj hf
  have AD:=Jm {τ with broken:=true} [] (by simp) (fun x hx=>by simp at hx) (by show τ.proof.length≤_;omega)
  have lQ:=hτ.We (t:={τ with broken:=true,core:=[],proof:=τ.proof++ [([]:List Int).map fun y=> -y]}) UQ S1 rfl rfl hτ.model
  simp only[hX,hZ] at AD
  cases Fu:τ.broken with
  |true=>
   (refine jB ?_;refine G3 ?_;refine iL ?_;refine JG ?_;(iterate 7 refine a_.MU rfl rfl rfl rfl rfl rfl ?_);refine HG ?_;refine kh ?_;refine AW.nO rfl rfl ?_;refine jB ?_;refine G3 ?_;(with_reducible apply a_.gv);(iterate 5 exact rfl);exact ag;(iterate 3 exact rfl);(with_reducible assumption);refine Ts ?_)
   (apply gS ((({τ with broken:=true,core:=[],proof:=τ.proof++ [([]:List Int).map fun y=> -y]},2):SR×Int)) (lQ);((exact gn.one (.tmp rfl rfl)));((exact Bb));((exact J2));exact rfl)
  |false=>
   rw[Fu] at Ub
   obtain⟨Vv,Fz⟩:=Ub.resolve_left (by simp)
   have Vl:decide (r≠ -1)=true:=by simpa using Vv
   have Vn:(τ.marks.length:Int)=0:=by rw[Fz];rfl
   (refine jB ?_;refine G3 ?_;refine iL ?_;refine zl ?_;refine kv ?_;refine a_.neq rfl rfl rfl rfl rfl ?_;refine zl ?_;refine zm ?_;refine Qq ?_;refine a_.b_ 92 4 4 rfl rfl rfl rfl ?_;refine zt ?_;refine zb ?_;refine zt ?_;refine a_.iP rfl rfl rfl rfl ?_;refine zt ?_;refine a_.eql rfl rfl rfl rfl rfl ?_;refine zl ?_;refine zT ?_;refine a_.iy rfl rfl rfl rfl rfl rfl ?_;refine kh ?_;refine zc ?_;refine jB ?_;refine G3 ?_;(with_reducible apply a_.gv);(iterate 5 exact rfl);exact ag;(iterate 3 exact rfl);(with_reducible assumption);refine Ts ?_)
   (apply gS ((({τ with broken:=true,core:=[],proof:=τ.proof++ [([]:List Int).map fun y=> -y]},2):SR×Int)) (lQ);((exact gn.one (.tmp rfl rfl)));((exact Bb));((exact J2));exact rfl)
 ·have Fu:τ.broken=false:=by
   cases h:τ.broken with
   |true=>exact absurd (.inl h) Ub
   |false=>rfl
  rcases D0 with ⟨rfl,Ll⟩|⟨j,hj,rfl,hf⟩
  ·by_cases fx:τ.marks.length<A.length
   ·have uq:((τ.marks.length:Nat):Int).toNat<A.length:=by rw[Int.toNat_natCast];exact fx
    obtain⟨x,hx⟩:∃x,x=A[τ.marks.length]:=⟨_,rfl⟩
    have Ba:A[τ.marks.length]=x:=hx.symm
    have ND:x∈A:=by rw[hx];exact cZ fx
    have uP:=hA x ND
    by_cases Ib:x∈τ.ll 0
    ·have ru:=kP (s:=τ) me.val me.iK rU uP (r:=1) (if_pos Ib).symm
     have vB:=ES τ aJ (by omega)
     have ri:=hτ.It Ll fx (by rw[Ba];exact Ib)
     simp only[hX,hZ] at ru vB
     (refine SD ?_;refine zc ?_;refine mj ?_;refine AZ ?_;refine zG ?_;refine aA ?_;refine zr ?_;refine kh ?_;(with_reducible apply AW.wJ 25);(rw[← hx]);refine jB ?_;refine oz ?_;refine PI ?_;refine AW.jV rfl rfl ?_;refine Lw ?_;refine AW.nO rfl rfl ?_;refine qJ ?_;refine AZ ?_;refine zX (vB) ?_;refine kA ?_;refine a_.nil ?_;(iterate 3 refine hO ?_);refine gO ?_)
     exact⟨(iq τ,met),ri,by show(fuel - met)*(A.length+n+2)+(A.length - (τ.marks++ [_]).length)+(n - (τ.ll 0).length)<(fuel - met)*(A.length+n+2)+(A.length - σ.marks.length)+(n - (σ.ll 0).length);rw[bV,dC,← Gt];omega,fy rfl (by(refine aD ?_;refine aC ?_;refine aG ?_;refine aD ?_;refine aC ?_;exact trivial)) (by(refine⟨.box _ rfl ?_,?_⟩;(iterate 3 refine aE ?_);refine aD ?_;refine aE ?_;refine aD ?_;(iterate 2 refine aE ?_);(iterate 3 refine aD ?_);refine aE ?_;refine aD ?_;(iterate 2 refine aG ?_);exact trivial;(iterate 3 refine aH ?_);(iterate 7 refine aF ?_);exact trivial)) rfl⟩
    ·by_cases tR: -x∈τ.ll 0
     ·have ru:=kP (s:=τ) me.val me.iK rU uP (r:= -1) (by rw[if_neg Ib,if_pos tR])
      have yJ:=Ji n τ me x tR
      obtain⟨s4,N5,f1,f2,f3⟩:=wu n τ me hτ.si.low
      simp only[hX,hZ] at ru yJ N5
      (refine SD ?_;refine zc ?_;refine mj ?_;refine AZ ?_;refine zG ?_;refine aA ?_;refine zr ?_;refine kh ?_;(with_reducible apply AW.wJ 25);(rw[← hx]);refine jB ?_;refine oz ?_;refine PI ?_;refine AW.nO rfl rfl ?_;refine uX ?_;refine zm ?_;(with_reducible apply a_.kc (hf:=yJ));(with_reducible assumption);(iterate 3 exact rfl);exact aq;exact ak;(intro x_;exact rfl);exact rfl;exact al;(intro x_;exact al);(intro x_;exact rfl);exact rfl;(intro x_ pI);refine kA ?_;refine kh ?_;refine uX ?_;refine zX (N5) ?_;refine kA ?_;refine zd ?_;refine AW.lE 30 ?_)
      refine Stop.go ?_
      have HM:=pI
      obtain⟨_,_,jq⟩:=HM.core hτ.si fx ND tR
      have Ti:x_.length≤100000:=by
       have:=kn (n:=2*n+2) (l:=x_.map eW) (by
        unfold List.Nodup
        rw[dB]
        exact(HM.core hτ.si fx ND tR).2.1.imp_of_mem fun {a b} ha hb r8 e=>r8 (ie (jq a ha) (jq b hb) (by rw[e]))) fun v hv=>by
        obtain⟨a,ha,rfl⟩:=bw.1 hv
        have:=ix (jq a ha)
        omega
       simp only[a6] at this
       omega
      have AD:=Jm s4 x_ Ti (fun y hy=>by obtain⟨_,_,_⟩:=jq y hy;omega) (by rw[f1];omega)
      have lQ:=hτ.VX (t:={s4 with core:=x_,proof:=s4.proof++ [x_.map fun y=> -y]}) UQ HM fx ND tR (by show s4.proof++_=_;rw[f1]) rfl (by show s4.model=_;rw[f2];exact hτ.model)
      simp only[hX,hZ] at AD
      (refine B6 ?_;refine zm ?_;refine zX (AD) ?_;refine kA ?_;refine kH ?_;(iterate 3 refine jl ?_);refine xM ?_;refine im ?_;refine nR ?_)
      (apply gS ((({s4 with core:=x_,proof:=s4.proof++ [x_.map fun y=> -y]},2):SR×Int)) (lQ);((exact gn.one (.tmp rfl rfl)));((exact Bb));((exact J2));exact rfl)
     ·have ru:=kP (s:=τ) me.val me.iK rU uP (r:=0) (by rw[if_neg Ib,if_neg tR])
      obtain⟨g1,g2,g3⟩:=uP
      have RY:=wq τ x g1 aJ aJ (by rw[me.lvl,C6]) (by rw[me.oG,C6]) aJ (by omega)
      have ri:=fun h:Value=>hτ.Wz Ll fx (by rw[Ba];exact hA x ND) (by rw[Ba];exact Ib) (by rw[Ba];exact tR) h
      rw[Ba] at ri
      have hlen:=(ri (.bool true)).si.inv.iK.len
      rw[jN,bV,dC] at hlen
      simp only[hX,hZ] at ru RY
      (refine SD ?_;refine zc ?_;refine mj ?_;refine AZ ?_;refine zG ?_;refine aA ?_;refine zr ?_;refine kh ?_;(with_reducible apply AW.wJ 25);(rw[← hx]);refine jB ?_;refine oz ?_;refine PI ?_;refine AW.jV rfl rfl ?_;refine Lw ?_;refine AW.jV rfl rfl ?_;refine qJ ?_;refine oz ?_;(with_reducible apply a_.kc (hf:=RY));(with_reducible assumption);(iterate 3 exact rfl);exact aq;exact ak;(intro x_;exact rfl);exact rfl;exact al;(intro x_;exact al);(intro x_;exact rfl);exact rfl;(intro x_ pI);refine kA ?_;refine a_.nil ?_;(iterate 3 refine hO ?_);refine gO ?_)
      exact⟨(fL (iq τ) x (-1) x_,met),ri x_,by show(fuel - met)*(A.length+n+2)+(A.length - (τ.marks++ [_]).length)+(n - ((fL (iq τ) x (-1) x_).ll 0).length)<(fuel - met)*(A.length+n+2)+(A.length - σ.marks.length)+(n - (σ.ll 0).length);rw[jN,bV,bV,dC,dC,← Gt];have:(iq τ).ll 0=τ.ll 0:=rfl;rw[this];omega,fy rfl (by(refine aD ?_;refine aC ?_;refine aG ?_;refine aD ?_;refine aC ?_;exact trivial)) (by(refine⟨.box _ rfl ?_,?_⟩;(iterate 3 refine aE ?_);refine aD ?_;refine aE ?_;refine aD ?_;(iterate 2 refine aE ?_);(iterate 3 refine aD ?_);refine aE ?_;refine aD ?_;(iterate 2 refine aG ?_);exact trivial;(iterate 3 refine aH ?_);(iterate 7 refine aF ?_);exact trivial)) rfl⟩
   ·obtain⟨k0,q1,q2,q3,_⟩:=id hτ.si.low
    have Ca:=Mt τ k0 q1 aJ (by omega)
    by_cases TQ:kE τ.value k0=τ.value.length
    ·rw[if_pos TQ] at Ca
     have E0:=hτ.full q1 TQ
     have rJ:fW n {τ with low:=(kE τ.value k0:Int),model:=τ.value}:={hn:=me.hn,iK:=me.iK,val:=me.val,lvl:=me.lvl,oG:=me.oG,hd:=me.hd,n3:=me.n3,mG:=me.mG,cls:=me.cls,fresh:=me.fresh,nc:=me.nc,nw:=me.nw,wt:=me.wt,qU:=me.qU,qX:=me.qX,two:=me.two,pB:=me.pB,qh:=me.qh}
     have sc:wy n {τ with low:=(kE τ.value k0:Int),model:=τ.value}:=⟨n+1,by show(kE τ.value k0:Int)=_;rw[TQ,C6],by omega,by omega,fun u h1 h2=>E0 u h1 aJ⟩
     obtain⟨s4,N5,f1,f2,f3⟩:=wu n _ rJ sc
     have lQ:=hτ.XL (t:=s4) UQ Fu Ll aJ E0 f1 (by rw[f3];exact hτ.core) f2
     simp only[hX,hZ] at Ca N5
     have Vy:0<(τ.value.map encI).length:=by rw[a6];omega
     (refine SD ?_;refine zk ?_;refine jB ?_;refine AZ ?_;refine zX (Ca) ?_;refine kA ?_;refine rW ?_;refine JQ ?_;refine jB ?_;(iterate 2 refine a_.fC rfl rfl rfl ?_);refine J9 ?_;refine a_.b_ 92 0 0 rfl rfl rfl rfl ?_;refine zb ?_;(with_reducible apply a_.inline (hf:=Tryz.func43));(with_reducible assumption);(iterate 10 exact rfl);intro g_ fE fD;refine J0 ?_;refine zq ?_;refine rD ?_;refine wN ?_;(with_reducible apply a_.Gr);(iterate 6 exact rfl);(with_reducible assumption);refine aB ?_;refine ti ?_;refine zq ?_;refine a_.Rm rfl rfl rfl rfl rfl ?_;refine J0 ?_;refine a_.gg rfl rfl rfl ?_;(with_reducible apply a_.fJ);exact rfl;exact ah;(iterate 9 exact rfl);exact aa;refine J0 ?_;refine tE ?_;refine zp rfl rfl ?_;refine JY ?_;refine a_.b_ 94 8 13 rfl rfl rfl rfl ?_;(with_reducible apply a_.gv);(iterate 5 exact rfl);exact ag;(iterate 3 exact rfl);(with_reducible assumption);refine rM ?_;refine AW.lE 11 ?_)
     refine Stop.go ?_
     refine AW.LM 11 rfl ?_
     refine aB ?_
     (refine B6 ?_;refine zX (N5) ?_;refine kA ?_;refine lz ?_;refine xL ?_;(iterate 2 refine jl ?_);refine xM ?_;refine im ?_;refine nR ?_)
     (apply gS (((s4,1):SR×Int)) (lQ);((exact gn.one (.tmp rfl rfl)));((exact Bb));((exact J2));exact rfl)
    ·rw[if_neg TQ] at Ca
     obtain⟨v,e,g1,g2,g3,g4,g5,hJ2⟩:=hτ.free q1 TQ
     rw[e] at Ca
     have JI:¬(v:Int)=0:=by omega
     have RY:=wq {τ with low:=(v:Int)} (-(v:Int)) aJ aJ (by show _<(τ.value.length:Int)∧_<(τ.value.length:Int);omega) (by show τ.level.length=τ.value.length;rw[me.lvl,C6]) (by show τ.reason.length=τ.value.length;rw[me.oG,C6]) (by show(τ.ll 0).length≤_;omega) (by show τ.marks.length≤_;omega)
     have ri:=fun h:Value=>hJ2.V1 Ll (by show A.length≤τ.marks.length;omega) g1 g2 g3 g4 g5 h
     have hlen:=(ri (.bool true)).si.inv.iK.len
     rw[jN,bV,dC] at hlen
     have hlen:(τ.ll 0).length+1≤n:=hlen
     simp only[hX,hZ] at Ca RY
     (refine SD ?_;refine zk ?_;refine jB ?_;refine AZ ?_;refine zX (Ca) ?_;refine kA ?_;refine rW ?_;refine Cm ?_;refine qJ ?_;refine oz ?_;refine a_.neg rfl rfl rfl aJ ?_;(with_reducible apply a_.kc (hf:=RY));(with_reducible assumption);(iterate 3 exact rfl);exact aq;exact ak;(intro x_;exact rfl);exact rfl;exact al;(intro x_;exact al);(intro x_;exact rfl);exact rfl;(intro x_ pI);refine kA ?_;refine a_.nil ?_;(iterate 2 refine hO ?_);refine gO ?_)
     exact⟨(fL (iq {τ with low:=(v:Int)}) (-(v:Int)) (-1) x_,met),ri x_,by show(fuel - met)*(A.length+n+2)+(A.length - (τ.marks++ [_]).length)+(n - ((fL (iq {τ with low:=(v:Int)}) (-(v:Int)) (-1) x_).ll 0).length)<(fuel - met)*(A.length+n+2)+(A.length - σ.marks.length)+(n - (σ.ll 0).length);rw[jN,bV,bV,dC,dC,← Gt];have:(iq {τ with low:=(v:Int)}).ll 0=τ.ll 0:=rfl;rw[this];omega,fy rfl (by(refine aD ?_;refine aC ?_;refine aG ?_;refine aD ?_;refine aC ?_;exact trivial)) (by(refine⟨.box _ rfl ?_,?_⟩;(iterate 3 refine aE ?_);refine aD ?_;refine aE ?_;refine aD ?_;(iterate 2 refine aE ?_);(iterate 3 refine aD ?_);refine aE ?_;refine aD ?_;(iterate 2 refine aG ?_);exact trivial;(iterate 3 refine aH ?_);(iterate 7 refine aF ?_);exact trivial)) rfl⟩
  ·have Fz:0<τ.marks.length:=by
    apply Nat.pos_of_ne_zero
    intro h
    exact Ub (.inr ⟨by omega,bj h⟩)
   have Vn:¬(τ.marks.length:Int)=0:=by omega
   have Vl:decide ((j:Int)≠ -1)=true:=by simp
   have zx:=Ej n τ me j hj hf Fz (by omega)
   simp only[hX,hZ] at zx
   (refine jB ?_;refine G3 ?_;refine iL ?_;refine Bo ?_;refine zm ?_;refine Bo ?_;refine a_.neq rfl rfl rfl rfl rfl ?_;refine Bo ?_;refine kv ?_;refine a_.fC rfl rfl rfl ?_;refine zl ?_;refine a_.fe rfl rfl rfl ?_;refine zl ?_;refine a_.b_ 94 0 0 rfl rfl rfl rfl ?_;refine zl ?_;refine a_.b_ 92 4 4 rfl rfl rfl rfl ?_;refine DD ?_;refine a_.iP rfl rfl rfl rfl ?_;refine zl ?_;refine a_.eql rfl rfl rfl rfl rfl ?_;refine Bo ?_;refine a_.iM rfl rfl rfl rfl rfl rfl ?_;refine a_.ER rfl rfl (by assumption) rfl rfl rfl rfl ?_;refine kh ?_;refine zk ?_;refine mj ?_;refine a_.neq rfl rfl rfl rfl rfl ?_;refine kh ?_;refine AW.nO rfl rfl ?_;refine uX ?_;refine zm ?_;(with_reducible apply a_.kc (hf:=zx));(with_reducible assumption);(iterate 3 exact rfl);exact aq;exact ak;(intro x_;exact rfl);exact rfl;exact al;(intro x_;exact al);(intro x_;exact rfl);exact rfl;(intro x_ pI);refine kA ?_;refine Iv ?_;refine lj ?_;refine AW.lE 19 ?_)
   refine Stop.go ?_
   obtain⟨v,l,tz⟩:=x_
   obtain⟨Dd,Tg⟩:=pI
   simp only at Dd Tg ⊢
   obtain⟨O1,ht,_⟩:=Tg.lvl me Fz
   obtain⟨k0,q1,q2,q3,_⟩:=id hτ.si.low
   obtain⟨p0,rest0,ep,Zn,_,_,pnd,pl2,_⟩:=Tg.back me ⟨ht,‹_›⟩
   have Fv:=Tg.lits me
   obtain⟨u,hu⟩:∃u,u=gr ({τ with hc:=fb τ.hc τ.nc v,cl:=fb τ.cl τ.nc l}:SR) tz.toNat:=⟨_,rfl⟩
   have Qm:=CU n ({τ with hc:=fb τ.hc τ.nc v,cl:=fb τ.cl τ.nc l}:SR) tz.toNat ht rU C6 me.iK (fun m hm=>by have:=me.n3 m hm;have:=me.hd;show 0≤m∧m.toNat≤(τ.ll 0).length;omega) (by show 0≤τ.low∧τ.low≤1000000;omega)
   rw[← hu,Int.toNat_of_nonneg O1] at Qm
   have L_:u.cl u.nc=l:=by rw[hu];exact e8 _ _ _
   have W3:u.hc u.nc=v:=by rw[hu];exact e8 _ _ _
   have WB:u.nc=τ.nc:=by rw[hu];rfl
   have VP:(u.ll 0).length≤1000000:=by
    have e:u.ll 0=(τ.ll 0).take (τ.marks[tz.toNat]).toNat:=by rw[hu];exact(mK me ht).1
    rw[e,dI];omega
   have hum:u.marks.length≤1000000:=by
    have e:u.marks=τ.marks.take tz.toNat:=by rw[hu];rfl
    rw[e,dI];omega
   have Wj:l.length≤1000000:=by
    have:=kn (n:=2*n+2) (l:=l.map eW) (by
     unfold List.Nodup
     rw[dB]
     exact pnd.imp_of_mem fun {a b} ha hb r8 e=>r8 (ie (Fv a ha) (Fv b hb) (by rw[e]))) fun v hv=>by
     obtain⟨a,ha,rfl⟩:=bw.1 hv
     have:=ix (Fv a ha)
     omega
    simp only[a6] at this
    omega
   have has:=Hv n u rU (by rw[L_,ep];simp) (by rw[L_];exact Wj) (by rw[L_];exact Fv) (by rw[L_];exact pnd) (by rw[hu];show(zeroV τ.value _).length=_;rw[qx];exact C6) (by rw[hu];exact me.lvl) (by rw[hu];exact me.oG) VP hum (by rw[hu];show τ.proof.length≤_;omega) (by rw[WB];omega) (by rw[hu];exact me.nw) (fun x hx=>by rw[hu];have:=me.Hr hx;show(τ.wl _).length≤_;omega)
   rw[W3] at has
   simp only[hX,hZ] at Qm has
   (refine uX ?_;refine zm ?_;refine zX (Qm) ?_;refine kA ?_;refine lz ?_;refine Eg ?_;(with_reducible apply a_.kc (hf:=has));(with_reducible assumption);(iterate 3 exact rfl);exact aq;exact ak;(intro x_;exact rfl);exact rfl;exact al;(intro x_;exact al);(intro x_;exact rfl);exact rfl;(intro x_ pI);refine kA ?_;refine zd ?_;refine AW.lE 21 ?_)
   refine Stop.go ?_
   obtain⟨Ou,hLV,YI,Tv,jy⟩:=hτ.sP Tg Fz hj hf hk aJ (by rw[← hu];exact pI)
   by_cases Cq:fuel≤met+1
   ·have Vh:(fuel:Int)≤(met:Int)+1:=by omega
    obtain⟨s4,N5,f1,f2,f3⟩:=wu n x_ Ou.inv Ou.low
    have lQ:=Ou.WA (t:=s4) jy UQ aJ f1 (by rw[f3];exact Tv) (by rw[f2];exact YI)
    simp only[hX,hZ] at N5
    (refine zq ?_;refine zm ?_;refine zj ?_;refine sM ?_;(iterate 2 refine zm ?_);refine a_.geq rfl rfl rfl rfl rfl ?_;refine lq ?_;refine AW.exit ?_;(iterate 2 refine nu rfl ?_);refine ke ?_;refine ir ?_;refine gO ?_;refine uX ?_;refine zX (N5) ?_;refine kA ?_;refine lz ?_;refine kH ?_;refine nR ?_)
    (apply gS (((s4,0):SR×Int)) (lQ);((exact gn.one (.tmp rfl rfl)));((exact Bb));((exact J2));exact rfl)
   ·have Vh:¬(fuel:Int)≤(met:Int)+1:=by omega
    have RW:(fuel - (met+1))*(A.length+n+2)+(A.length - x_.marks.length)+(n - (x_.ll 0).length)<(fuel - met)*(A.length+n+2)+(A.length - σ.marks.length)+(n - (σ.ll 0).length):=by
     obtain⟨d,hd⟩:∃d,fuel - met=d+1:=⟨fuel - met - 1,by omega⟩
     rw[show fuel - (met+1)=d by omega,hd,Nat.add_mul,Nat.one_mul]
     omega
    (refine zq ?_;refine zm ?_;refine zj ?_;refine sM ?_;(iterate 2 refine zm ?_);refine a_.geq rfl rfl rfl rfl rfl ?_;refine zd ?_;refine zk ?_;refine AW.skip ?_;(iterate 2 refine hO ?_);refine gO ?_)
    exact⟨(x_,met+1),⟨Ou,hLV,YI,Tv,by omega,jy⟩,RW,fy rfl (by(refine aD ?_;refine aC ?_;refine aG ?_;refine aD ?_;refine aC ?_;exact trivial)) (by(refine⟨.box _ rfl ?_,?_⟩;(iterate 3 refine aE ?_);refine aD ?_;refine aE ?_;refine aD ?_;(iterate 2 refine aE ?_);(iterate 3 refine aD ?_);refine aE ?_;refine aD ?_;(iterate 2 refine aG ?_);exact trivial;(iterate 3 refine aH ?_);(iterate 7 refine aF ?_);exact trivial)) rfl⟩
end Go.Ab
/- The solver:values,core and proof told,walked. -/
namespace Go.Ab
open Go Go.Proofs
open Nat (reduceAdd reduceSub)
set_option maxRecDepth 20000
set_option maxHeartbeats 8000000
attribute [local irreducible] gC AW a_ ga ft AR fB fp fG fU jw lA eW
theorem K9 (s:SR) (v:Nat) (hv:0<v):mg Tryz.prog 25 11 (hX s) [.ptr 0 0,e7 v] (hX s) (fu (decide (0<s.model.getD v 0))):=by
 simp only[hX,hZ]
 by_cases h:v<s.model.length
 ·have hl:(v:Int).toNat<s.model.length:=by omega
  have hvi:(v:Int)<(s.model.length:Int):=by omega
  have e:s.model.getD v 0=s.model[(v:Int).toNat]:=fF hl
  rw[e]
  refine mg.enter (n:=26) Tryz.func25 rfl rfl rfl rfl rfl (by decide) rfl rfl fun g fE fD=>?_;refine qz ?_
  (refine S3 ?_;refine SZ ?_;refine a_.b_ 94 8 13 rfl rfl rfl rfl ?_;refine zt ?_;refine zb ?_;refine zh ?_;refine aA ?_;refine zt ?_;refine zr ?_;refine zt ?_;refine a_.gtr rfl rfl rfl rfl rfl ?_;refine zT ?_;refine kH ?_)
  (apply hY;((exact gn.one (.tmp rfl rfl)));((refine Eu ?_;exact vw));((exact Td));exact rfl)
 ·have hvi:¬(v:Int)<(s.model.length:Int):=by omega
  have e:s.model.getD v 0=0:=by rw[c8,cD aJ];rfl
  rw[e]
  refine mg.enter (n:=26) Tryz.func25 rfl rfl rfl rfl rfl (by decide) rfl rfl fun g fE fD=>?_;refine qz ?_
  (refine S3 ?_;(iterate 8 refine a_.oW rfl rfl rfl rfl rfl rfl (by with_reducible assumption) ?_);refine zF ?_;refine kH ?_)
  (apply hY;((exact gn.one (.tmp rfl rfl)));((refine Eu ?_;exact vw));((exact Td));exact rfl)
theorem MO (s:SR) (hl:s.core.length≤1000000):mg Tryz.prog 26 11 (hX s) [.ptr 0 0] (hX s) (.pv (jX s.core)):=by
 have hc:=tT s.core hl
 simp only[hX,hZ]
 refine mg.enter (n:=8) Tryz.func26 rfl rfl rfl rfl rfl (by decide) rfl rfl fun g fE fD=>?_;refine qz ?_
 (refine zq ?_;refine sM ?_;refine oF ?_;refine a_.b_ 94 9 14 rfl rfl rfl rfl ?_;refine zb ?_;refine zP (hc) ?_;refine kH ?_)
 (apply hY;((exact gn.one (.tmp rfl rfl)));((refine aG ?_;exact vw));((exact Td));exact rfl)
theorem Er (l:List Int) (hl:l.length≤1000000):Fn Tryz.prog 59 [.agg [.pv (.lit (.int .i64 1)),.pv (jX l),.pv (.lit (.int .i64 0))]] (.agg [.pv (.lit (.int .i64 1)),.pv (jX l),.pv (.lit (.int .i64 0))]):=by
 have hc:=tT l hl
 refine Fn.enter (n:=8) Tryz.func59 rfl rfl rfl rfl rfl (by decide) fun g fE fD=>?_;refine aB ?_
 (refine zq ?_;refine a_.box rfl rfl rfl rfl ?_;refine J0 ?_;refine a_.sR rfl rfl rfl rfl ?_;refine J0 ?_;refine lz ?_;refine rA ?_;refine zP (hc) ?_;refine a_.b_ 65 1 1 rfl rfl rfl rfl ?_;(with_reducible apply a_.gv);(iterate 5 exact rfl);exact ag;(iterate 3 exact rfl);(with_reducible assumption);refine J0 ?_;refine lz ?_;refine zL ?_;refine J0 ?_;refine zB ?_;refine rM ?_;refine AW.ret ?_)
 (apply e9;(exact gn.one (.cell rfl rfl rfl rfl));(refine Le.EO ?_;refine jO.cons ?_ ?_;(with_reducible exact Le.pv _);refine jO.cons ?_ ?_;(with_reducible exact Le.pv _);refine jO.cons ?_ ?_;(with_reducible exact Le.pv _);exact jO.nil))
abbrev Ja (s:SR):List AV:=[.own 1 3 1 (s.value.map encI),.own 2 3 1 (s.level.map encI),.own 3 3 1 (s.reason.map encI),.pv (.lit (s.hl 0)),.own 5 3 1 (s.marks.map encI),e7 s.low,.own 6 29 1 (gC s.nc s.hc),.own 8 29 1 (gC s.nw s.hw),e7 s.head,e7 s.added,fu s.broken,.pv (.slice 3 (s.proof.map mI)),e7 0,.pv (jX s.model),.pv (jX s.core)]
abbrev P_ (s:SR):List (Nat×Option Ob):=[(0,some (.box (Ja s))),(1,some .row),(2,some .row),(3,some .row),(4,some (.ff 3 (kl s.hl s.ll))),(5,some .row),(6,some .row),(7,some (.ff 3 (kl s.hc s.cl))),(8,some .row),(9,some (.ff 3 (kl s.hw s.wl))),(10,some .row)]
theorem Jy (s:SR) (hp:s.proof.length≤100000) (hl:∀l∈s.proof,l.length≤1000000):mg Tryz.prog 27 11 (hX s) [.ptr 0 0] (P_ s) (.pv (.slice 3 (s.proof.map mI))):=by
 simp only[hX,hZ,P_,Ja]
 refine mg.enter (n:=24) Tryz.func27 rfl rfl rfl rfl rfl (by decide) rfl rfl fun g fE fD=>?_;refine qz ?_
 refine AW.LM 10 rfl ?_
 refine aB ?_
 (refine zq ?_;refine sM ?_;refine a_.assign rfl rfl rfl ?_;refine J0 ?_;refine lz ?_;refine rD ?_;refine jB ?_;refine oF ?_;refine a_.b_ 94 6 11 rfl rfl rfl rfl ?_;refine zb ?_;refine nj ?_)
 (refine J0 ?_;apply AW.gP [11,10,3,2,1000] [0,1,2,3,4,5,6,7,8,9] (fun k:Nat=>([(4,.own 11 65 3 ((s.proof.take k).map mI)),(12,e7 k)]:List (Nat×AV))) (fun k:Nat=>([(11,some .row)]:List (Nat×Option Ob))) (fun k:Nat=>k≤s.proof.length) (fun k:Nat=>s.proof.length - k) (0);(conv=>lhs;simp only[Nf.n7,Nf.all,di,reduceAdd,reduceSub]);(all_goals skip))
 ·exact bk _
 ·exact fy rfl (by(refine⟨.jL _ _ _ rfl rfl,?_⟩;(iterate 2 refine aD ?_);refine aG ?_;refine aC ?_;refine aD ?_;refine aC ?_;exact trivial)) (by(refine⟨.ji rfl,?_⟩;refine⟨.box _ rfl ?_,?_⟩;(iterate 3 refine aE ?_);refine aD ?_;refine aE ?_;refine aD ?_;(iterate 2 refine aE ?_);(iterate 3 refine aD ?_);refine aG ?_;refine aD ?_;(iterate 2 refine aG ?_);exact trivial;(iterate 3 refine aF ?_);refine aH ?_;(iterate 2 refine aF ?_);refine aH ?_;refine aF ?_;refine aH ?_;exact trivial)) rfl
 rintro k hk
 by_cases fx:k<s.proof.length
 ·have hc:=Er s.proof[k] (hl _ (cZ fx))
  have E3:=dR k s.proof
  have e:((s.proof.take (k+1)).map mI)=(s.proof.take k).map mI++ [mI s.proof[k]]:=by
   rw[dp fx,cU];rfl
  (refine zq ?_;refine pW ?_;refine J5 ?_;refine jB ?_;refine aA ?_;refine a_.qt rfl rfl rfl rfl ?_;refine J0 ?_;refine a_.sR rfl rfl rfl rfl ?_;refine J0 ?_;refine zB ?_;refine rM ?_;refine AW.region ?_;refine a_.gg rfl rfl rfl ?_;refine a_.jA rfl rfl rfl ?_;refine zL ?_;refine J0 ?_;(with_reducible apply a_.QL (hf:=hc));exact rfl;exact rfl;exact aj;exact rfl;refine a_.Bn rfl rfl rfl rfl rfl rfl rfl rfl rfl rfl ?_;refine J0 ?_;(with_reducible apply a_.fJ);exact rfl;exact ah;(iterate 9 exact rfl);exact aa;refine J0 ?_;refine BK ?_;refine rC ?_)
  exact⟨k+1,by omega,by omega,fy rfl (by(refine⟨.fj (by first|rfl|(rw[e])) rfl,?_⟩;refine⟨.fh (by first|rfl|(rw[e])),?_⟩;refine⟨.fh (by first|rfl|(rw[e])),?_⟩;refine⟨.ia (by first|rfl|(rw[e])),?_⟩;refine aC ?_;refine⟨.fh (by first|rfl|(rw[e])),?_⟩;refine aC ?_;exact trivial)) (by(refine aF ?_;refine⟨.box _ rfl ?_,?_⟩;refine⟨.fj (by first|rfl|(rw[e])) rfl,?_⟩;refine⟨.fj (by first|rfl|(rw[e])) rfl,?_⟩;refine⟨.fj (by first|rfl|(rw[e])) rfl,?_⟩;refine⟨.fh (by first|rfl|(rw[e])),?_⟩;refine⟨.fj (by first|rfl|(rw[e])) rfl,?_⟩;refine⟨.fh (by first|rfl|(rw[e])),?_⟩;refine⟨.fj (by first|rfl|(rw[e])) rfl,?_⟩;refine⟨.fj (by first|rfl|(rw[e])) rfl,?_⟩;refine⟨.fh (by first|rfl|(rw[e])),?_⟩;refine⟨.fh (by first|rfl|(rw[e])),?_⟩;refine⟨.fh (by first|rfl|(rw[e])),?_⟩;refine⟨.ia (by first|rfl|(rw[e])),?_⟩;refine⟨.fh (by first|rfl|(rw[e])),?_⟩;refine⟨.ia (by first|rfl|(rw[e])),?_⟩;refine⟨.ia (by first|rfl|(rw[e])),?_⟩;exact trivial;(iterate 3 refine aF ?_);refine⟨.ff rfl (by first|rfl|(rw[e])),?_⟩;(iterate 2 refine aF ?_);refine⟨.ff rfl (by first|rfl|(rw[e])),?_⟩;refine aF ?_;refine⟨.ff rfl (by first|rfl|(rw[e])),?_⟩;exact trivial)) rfl⟩
 ·obtain rfl:k=s.proof.length:=by omega
  rw[da]
  (refine uB ?_;refine wN ?_;refine tE ?_)
  (apply hY;((exact gn.one (.tmp rfl rfl)));((refine⟨.z6 rfl (by rfl),?_⟩;exact vw));((refine⟨.box _ rfl ?_,?_⟩;(iterate 3 refine aE ?_);refine Eu ?_;refine aE ?_;refine Eu ?_;(iterate 2 refine aE ?_);(iterate 3 refine aD ?_);refine aG ?_;refine Eu ?_;(iterate 2 refine aG ?_);exact trivial;(iterate 3 refine aF ?_);refine aH ?_;(iterate 2 refine aF ?_);refine aH ?_;refine aF ?_;refine aH ?_;refine⟨.ji rfl,?_⟩;exact trivial));exact rfl)
end Go.Ab
/- A formula solved:a new solver,its clauses,the search,walked. -/
namespace Go.Ab
open Go Go.Proofs
open Nat (reduceAdd reduceSub)
set_option maxRecDepth 20000
set_option maxHeartbeats 8000000
section
variable {P:Program} {g:e6} {δ:DS} {Q:Exit→DS→Prop}
theorem AW.Ed (m:Nat) {c:Code} (h:Nat.ble δ.nx m=true) (hK:AW P g c Q {δ with nx:=m}):AW P g c Q δ:=fun κ a w r=>
 hK κ a w {n:=r.n,dfr:=r.dfr,env:=r.env,obj:=r.obj,inj:=r.inj,lo:=r.lo,nx:=fun i hi=>Nat.lt_of_lt_of_le (r.nx i hi) (by simpa using h),wt:=r.wt,below:=r.below,hB:=r.hB,N0:=r.N0,fr:=r.fr,km:=r.km}
theorem AW.Oq (i j:Nat) {c:Code} (je:g.wt=none) (hi:aY i δ.nx=true) (hj:aY j δ.nx=true) (hK:AW P g c Q (δ.sw i j)):AW P g c Q δ:=AW.fy (nV.sw i j je hi hj (fun κ a w r=>⟨κ,r⟩)) hK
end
theorem GV (h:Nat→Value):gC 0 h=[]:=rfl
theorem I8 (n:Nat):bY n [PV.lit (.slice none 0 0)]=gC n (fun _=> .slice none 0 0):=by
 unfold gC
 symm
 rw[List.eq_replicate_iff]
 refine⟨by simp,fun x hx=>?_⟩
 obtain⟨_,_,rfl⟩:=bw.1 hx
 rfl
def pd (n:Nat) (m:List Int):List Bool:=(bc n).map fun i=>decide (0<m.getD (i+1) 0)
def fK (n:Nat) (F:List (List Int)) (A:List Int) (q:Int×List Bool×List Int×List (List Int)):Prop:=∃t,kC n F A 10000 t q.1∧q.2.1=pd n t.model∧q.2.2.1=t.core∧q.2.2.2=t.proof
attribute [local irreducible] gC AW a_ ga ft AR fB fp fG fU jw lA zi eW
theorem Bi {n:Nat} (hn:n≤20000) {l:List Int} (jy:l.Nodup) (hl:∀x∈l,Lit n x):l.length≤1000000:=by
 have:=kn (n:=2*n+2) (l:=l.map eW) (by
  unfold List.Nodup
  rw[dB]
  exact jy.imp_of_mem fun {a b} ha hb r8 e=>r8 (ie (hl a ha) (hl b hb) (by rw[e]))) fun v hv=>by
  obtain⟨a,ha,rfl⟩:=bw.1 hv
  have:=ix (hl a ha)
  omega
 simp only[a6] at this
 omega
theorem kC.D6 {n:Nat} {F:List (List Int)} {A:List Int} {fuel:Nat} {t:SR} {k:Int} (h:kC n F A fuel t k):t.core.length≤1000000:=by
 rcases h.res with ⟨_,_,_,e,_⟩|⟨_,_,_,_,_,e1,e2⟩|⟨_,_,e,_⟩
 ·rw[e];simp
 ·exact Bi h.hn e1 e2
 ·rw[e];simp
theorem kC.TJ {n:Nat} {F:List (List Int)} {A:List Int} {fuel:Nat} {t:SR} {k:Int} (h:kC n F A fuel t k):∀l∈t.proof,l.length≤1000000:=fun l hl=>
 Bi h.hn (h.nd l hl) (h.lits l (bW.2 (.inr hl)))
theorem tV (n:Nat) (F:List (List Int)) (A:List Int) (hn:n≤20000) (hF:F.length≤50000) (hc:∀c∈F,c.length≤1000000∧∀x∈c,Lit n x) (hA:∀x∈A,Lit n x) (YH:A.length≤50000):uo Tryz.prog 9 0 [] [H6 (n:Nat) F,.pv (jX A)] (fun q:Int×List Bool×List Int×List (List Int)=>fK n F A q) (fun _=>[]) (fun q=> .gM [e7 q.1,.pv (Uj q.2.1),.pv (jX q.2.2.1),.pv (.slice 3 (q.2.2.2.map mI))]):=by
 have vk:¬(n:Int)<0:=by omega
 have hn2:¬(20000:Int)<(n:Int):=by omega
 have hz:bY ((n:Int)+1).toNat [PV.lit (.int .i64 0)]=(lF n).value.map encI:=by
  rw[show((n:Int)+1).toNat=n+1 by omega]
  show _=(bY (n+1) 0).map encI
  rw[List.map_replicate];rfl
 have hw:bY (2*(n:Int)+2).toNat [PV.lit (.slice none 0 0)]=gC (lF n).nw (lF n).hw:=by
  rw[show(2*(n:Int)+2).toNat=2*n+2 by omega]
  exact I8 _
 have A0:gC (lF n).nc (lF n).hc=[]:=GV _
 refine uo.Qf (n:=54) Tryz.func9 rfl rfl rfl rfl rfl (by decide) rfl (fun _=>rfl) fun g fE fD=>?_;refine qz ?_
 (refine zq ?_;refine a_.box rfl rfl rfl rfl ?_;refine J0 ?_;(iterate 4 refine za ?_);refine zd ?_;refine jB ?_;refine u7 ?_;(with_reducible apply a_.inline (hf:=Tryz.func22));(with_reducible assumption);(iterate 10 exact rfl);intro g_ fE fD;refine J0 ?_;refine zq ?_;refine rW ?_;refine zs ?_;refine kv ?_;refine zm ?_;refine RB ?_;refine vD ?_;refine mj ?_;refine a_.mul rfl rfl rfl rfl rfl aJ ?_;refine zj ?_;refine Rg ?_;refine J0 ?_;refine a_.wb 94 [7] rfl rfl rfl rfl rfl rfl rfl rfl rfl ?_;refine J0 ?_;refine a_.box rfl rfl rfl rfl ?_;refine J0 ?_;refine a_.nm rfl rfl rfl ?_;refine zd ?_;refine zo ?_;refine AW.gB [0,1,2,4,5,7,8] [13] rfl (by assumption) aI aI rfl ?_;show a_ .held _ _ _ [_,_,_,_,_,_,_] _ _;refine Eg ?_;refine zj ?_;refine zm ?_;refine zj ?_;refine zm ?_;refine zj ?_;refine J4 ?_;intro k_ ja;refine J0 ?_;apply AR.cut [8,7,5,4,2,1,0,3,6,9];intro nA;apply AR.cut [8,7,5,4,2,1,0,3,9];intro qK;apply AR.cut [8,7,5,4,2,1,0,6,9];intro pP;apply AR.cut [8,7,5,4,2,1,0,3,6];intro tB;(refine AR.ua (i:=3) (j:=6) (m:=9) rfl aI rfl rfl rfl ?_ ?_ ?_<;>intro g_ c_ gh);refine vb ?_;(refine AR.gX (i:=6) (j:=9) rfl aI rfl rfl ?_ ?_<;>intro g_ c_ gh);refine vb ?_;refine aB ?_;refine u0 ?_;exact AR.perm aI tB;refine vb ?_;refine aB ?_;exact HE;refine vb ?_;(refine AR.gX (i:=3) (j:=9) rfl aI rfl rfl ?_ ?_<;>intro g_ c_ gh);refine vb ?_;refine aB ?_;refine MS ?_;refine AR.meet tB aI (fun g_=>fy rfl ?_ ?_ rfl);(iterate 34 refine aC ?_);exact trivial;(iterate 2 refine aF ?_);exact SO;refine vb ?_;refine aB ?_;refine u0 ?_;exact AR.perm aI pP;refine vb ?_;(refine AR.gX (i:=3) (j:=6) rfl aI rfl rfl ?_ ?_<;>intro g_ c_ gh);refine vb ?_;refine aB ?_;refine MS ?_;refine AR.meet qK aI (fun g_=>fy rfl ?_ ?_ rfl);(iterate 34 refine aC ?_);exact trivial;(iterate 2 refine aF ?_);exact SO;refine vb ?_;refine aB ?_;refine MS ?_;refine AR.meet pP aI (fun g_=>fy rfl ?_ ?_ rfl);(iterate 34 refine aC ?_);exact trivial;(iterate 2 refine aF ?_);exact SO;refine AR.fM (i:=9) rfl aI rfl ?_;intro g_ c_ gh;refine vb ?_;refine aB ?_;exact x8;refine AR.fM (i:=3) rfl aI rfl ?_;intro g_ c_ gh;refine vb ?_;refine aB ?_;refine AR.sw 4 5 (by assumption) aI aI ?_;refine GH ?_;refine MS ?_;refine QN ?_;(iterate 3 refine aF ?_);exact SO;refine AR.fM (i:=6) rfl aI rfl ?_;intro g_ c_ gh;refine vb ?_;refine aB ?_;refine AR.sw 4 5 (by assumption) aI aI ?_;refine GH ?_;refine QN ?_;(iterate 3 refine aF ?_);exact SO;refine AR.free 10 aI rfl rfl rfl (fO.build 92 [0,1,2,5] rfl rfl rfl rfl rfl rfl rfl rfl) ?_;refine aB ?_;refine AR.iI [11,12] aI aI aI aI ?_;intro g_ c_;show a_ .held _ _ _ [_,_] _ _;refine J9 ?_;refine J4 ?_;intro k_ ja;refine J0 ?_;refine xR ?_;intro g_ c_ fk;(with_reducible apply a_.wC);(iterate 3 exact rfl);(repeat' first|exact va.nil|apply va.take|apply va.skip);(iterate 5 exact rfl);(with_reducible assumption);refine rz ?_;refine B6 ?_;refine a_.nm rfl rfl rfl ?_;refine zd ?_;refine AW.ret ?_;refine zH rfl rfl ?_;refine J0 ?_;refine a_.nm rfl rfl rfl ?_;refine zd ?_;refine zo ?_;refine AW.lE 2 ?_)
 refine Stop.go ?_
 refine AW.Au 3 ?_
 refine AW.Au 3 ?_
 refine AW.Au 3 ?_
 refine AW.Ed 20 (by rfl) ?_
 refine AW.Oq 0 11 (by assumption) rfl rfl ?_
 refine AW.Oq 2 0 (by assumption) rfl rfl ?_
 refine AW.Oq 1 8 (by assumption) rfl rfl ?_
 refine AW.Oq 3 1 (by assumption) rfl rfl ?_
 refine AW.Oq 4 2 (by assumption) rfl rfl ?_
 refine AW.Oq 3 4 (by assumption) rfl rfl ?_
 refine AW.Oq 5 3 (by assumption) rfl rfl ?_
 refine AW.Oq 6 9 (by assumption) rfl rfl ?_
 refine GH ?_
 refine AW.fy (δ':=⟨54,[(8,.ptr 0 0),(2,.ptr 11 0),(1,.pv (jX A)),(1000,.agg [])],hX (lF n)++ [(11,some (.box [e7 n,.pv (jm F)]))],20⟩) ?_ ?_
 ·exact fy rfl (by(refine aC ?_;refine aC ?_;refine⟨.ia (by first|rfl|exact hz|exact hw|exact A0),?_⟩;refine aC ?_;exact trivial)) (by(refine⟨.box _ rfl ?_,?_⟩;(iterate 3 refine⟨.fj (by first|rfl|exact hz|exact hw|exact A0) rfl,?_⟩);refine⟨.fh (by first|rfl|exact hz|exact hw|exact A0),?_⟩;refine⟨.jL _ _ _ rfl rfl,?_⟩;refine⟨.fh (by first|rfl|exact hz|exact hw|exact A0),?_⟩;refine⟨.Mb (by first|rfl|exact hz|exact hw|exact A0) rfl rfl,?_⟩;refine⟨.fj (by first|rfl|exact hz|exact hw|exact A0) rfl,?_⟩;(iterate 3 refine⟨.fh (by first|rfl|exact hz|exact hw|exact A0),?_⟩);refine⟨.jL _ _ _ rfl rfl,?_⟩;refine⟨.fh (by first|rfl|exact hz|exact hw|exact A0),?_⟩;(iterate 2 refine⟨.KU (by first|rfl|exact hz|exact hw|exact A0),?_⟩);exact trivial;(iterate 3 refine aF ?_);refine⟨.ff rfl (by first|rfl|exact hz|exact hw|exact A0),?_⟩;(iterate 2 refine⟨.ji rfl,?_⟩);refine⟨.ff rfl (by first|rfl|exact hz|exact hw|exact A0),?_⟩;refine aF ?_;refine⟨.ff rfl (by first|rfl|exact hz|exact hw|exact A0),?_⟩;refine⟨.ji rfl,?_⟩;refine⟨.box _ rfl ?_,?_⟩;refine⟨.fh (by first|rfl|exact hz|exact hw|exact A0),?_⟩;refine⟨.ia (by first|rfl|exact hz|exact hw|exact A0),?_⟩;(iterate 2 exact trivial))) rfl
 simp only[hX,hZ,List.cons_append,List.nil_append]
 (refine B6 ?_;refine a_.OP rfl rfl rfl rfl rfl rfl rfl ?_;refine ti ?_;refine zo ?_;refine jB ?_;refine kh ?_;refine AW.block ?_)
 (refine J0 ?_;apply AW.gP [8,2,1,1000] [1,2,3,5,6,8,10,11] (fun q:SR×Nat=>([(9,e7 (q.2:Nat))]:List (Nat×AV))) (fun q:SR×Nat=>([(0,some (.box [.own 1 3 1 ((q.1.value).map encI),.own 2 3 1 ((q.1.level).map encI),.own 3 3 1 ((q.1.reason).map encI),.pv (.lit (q.1.hl 0)),.own 5 3 1 ((q.1.marks).map encI),e7 (q.1.low),.own 6 29 1 (gC q.1.nc q.1.hc),.own 8 29 1 (gC q.1.nw q.1.hw),e7 (q.1.head),e7 (q.1.added),fu (q.1.broken),.own 10 65 3 ((q.1.proof).map mI),e7 0,.pv (jX (q.1.model)),.pv (jX (q.1.core))])),(4,some (.ff 3 (kl q.1.hl q.1.ll))),(7,some (.ff 3 (kl q.1.hc q.1.cl))),(9,some (.ff 3 (kl q.1.hw q.1.wl)))]:List (Nat×Option Ob))) (fun q:SR×Nat=>(l_ n (F.take q.2) q.2 q.1∧q.2≤F.length)) (fun q:SR×Nat=>F.length - q.2) ((lF n,0));(conv=>lhs;simp only[Nf.n7,Nf.all,di,reduceAdd,reduceSub]);(all_goals skip))
 ·exact⟨EP hn,bk _⟩
 ·exact fy rfl (by(refine aD ?_;(iterate 2 refine aC ?_);refine aG ?_;refine aC ?_;exact trivial)) (by(refine⟨.box _ rfl ?_,?_⟩;(iterate 3 refine aE ?_);refine aD ?_;refine aE ?_;refine aD ?_;(iterate 2 refine aE ?_);(iterate 3 refine aD ?_);refine aE ?_;refine aD ?_;(iterate 2 refine aG ?_);exact trivial;(iterate 3 refine aH ?_);(iterate 7 refine aF ?_);refine⟨.box _ rfl ?_,?_⟩;refine aD ?_;refine aG ?_;(iterate 2 exact trivial))) rfl
 rintro⟨σ,i⟩ ⟨hσ,hi⟩
 simp only at hσ hi
 by_cases fx:i<F.length
 ·obtain⟨EJ,O0⟩:=hc _ (cZ fx)
  have U4:=AB n (F.take i) i σ hσ aJ F[i] O0 EJ
  rw[← dp fx] at U4
  simp only[hX,hZ] at U4
  (refine zo ?_;refine mj ?_;refine pE ?_;refine F2 ?_;refine uX ?_;refine pE ?_;refine zm ?_;refine aA ?_;refine zr ?_;(with_reducible apply a_.kc (hf:=U4));(with_reducible assumption);(iterate 3 exact rfl);exact aq;exact ak;(intro x_;exact rfl);exact rfl;exact al;(intro x_;exact al);(intro x_;exact rfl);exact rfl;(intro x_ pI);refine kA ?_;refine a_.not rfl rfl rfl ?_;refine qO ?_;refine J0 ?_;refine zm ?_;refine zj ?_;refine kh ?_)
  exact⟨(x_,i+1),⟨pI,fx⟩,by show F.length - (i+1)<F.length - i;omega,fy rfl (by(refine aD ?_;(iterate 2 refine aC ?_);refine aG ?_;refine aC ?_;exact trivial)) (by(refine⟨.box _ rfl ?_,?_⟩;(iterate 3 refine aE ?_);refine aD ?_;refine aE ?_;refine aD ?_;(iterate 2 refine aE ?_);(iterate 3 refine aD ?_);refine aE ?_;refine aD ?_;(iterate 2 refine aG ?_);exact trivial;(iterate 3 refine aH ?_);(iterate 7 refine aF ?_);refine⟨.box _ rfl ?_,?_⟩;refine aD ?_;refine aG ?_;(iterate 2 exact trivial))) rfl⟩
 ·obtain rfl:i=F.length:=by omega
  rw[da] at hσ
  have U0:=IC n F F.length σ hσ aJ A hA YH 10000 aJ (by omega)
  rw[show((10000:Nat):Int)=10000 from rfl] at U0
  simp only[hX,hZ] at U0
  (refine zo ?_;refine mj ?_;refine pE ?_;refine zn ?_;refine pW ?_;refine vj ?_;refine uX ?_;refine zm ?_;(with_reducible apply a_.kc (hf:=U0));(with_reducible assumption);(iterate 3 exact rfl);exact aq;exact ak;(intro x_;exact rfl);exact rfl;exact al;(intro x_;exact al);(intro x_;exact rfl);exact rfl;(intro x_ pI);refine kA ?_;refine kh ?_;refine AW.lE 10 ?_)
  refine Stop.go ?_
  obtain⟨t,k⟩:=x_
  have ht:=pI
  simp only at ht ⊢
  have K7:=ht.plen2
  have o_:=ht.lits
  have NX:∀m,(pd n m).length=n:=fun m=>by simp [pd]
  (refine jB ?_;refine rD ?_;refine jB ?_;refine kh ?_;refine AW.block ?_)
  (refine J0 ?_;apply AW.gP [10,8,2,1000] [0,1,2,3,4,5,6,7,8,9,10,11] (fun v:Nat=>([(11,.own 12 4 1 (((pd n t.model).take v).map oI)),(12,e7 ((v:Int)+1))]:List (Nat×AV))) (fun v:Nat=>([(12,some .row)]:List (Nat×Option Ob))) (fun v:Nat=>v≤n) (fun v:Nat=>n - v) (0);(conv=>lhs;simp only[Nf.n7,Nf.all,di,reduceAdd,reduceSub]);(all_goals skip))
  ·exact bk _
  ·exact fy rfl (by(refine⟨.jL _ _ _ rfl rfl,?_⟩;(iterate 2 refine aD ?_);(iterate 3 refine aC ?_);exact trivial)) (by(refine⟨.ji rfl,?_⟩;refine⟨.box _ rfl ?_,?_⟩;(iterate 3 refine aE ?_);refine aD ?_;refine aE ?_;refine aD ?_;(iterate 2 refine aE ?_);(iterate 3 refine aD ?_);refine aE ?_;refine aD ?_;(iterate 2 refine aG ?_);exact trivial;(iterate 3 refine aF ?_);refine aH ?_;(iterate 2 refine aF ?_);refine aH ?_;refine aF ?_;refine aH ?_;refine aF ?_;refine⟨.box _ rfl ?_,?_⟩;refine aD ?_;refine aG ?_;(iterate 2 exact trivial))) rfl
  rintro v hv
  by_cases pk:v<n
  ·have XD:=K9 t (v+1) (by omega)
   have e:((pd n t.model).take (v+1)).map oI=((pd n t.model).take v).map oI++ [oI (decide (0<t.model.getD (v+1) 0))]:=by
    rw[dp (by rw[NX];exact pk),cU]
    simp [pd]
   rw[show((v+1:Nat):Int)=(v:Int)+1 from rfl] at XD
   have qu:=dR v (pd n t.model)
   simp only[hX,hZ] at XD
   (refine mD ?_;refine u7 ?_;refine a_.leq rfl rfl rfl rfl rfl ?_;refine lq ?_;refine F7 ?_;refine qJ ?_;refine a_.gg rfl rfl rfl ?_;refine Eg ?_;refine zX (XD) ?_;refine kA ?_;(with_reducible apply a_.nK);(iterate 5 exact rfl);exact ag;exact rfl;exact rfl;refine J0 ?_;(with_reducible apply a_.fJ);exact rfl;exact ah;(iterate 9 exact rfl);exact aa;refine J0 ?_;refine BK ?_;refine J0 ?_;refine zm ?_;refine zj ?_;refine kh ?_)
   exact⟨v+1,by omega,by omega,fy rfl (by(refine⟨.fj (by first|rfl|(rw[e];rfl)) rfl,?_⟩;refine⟨.fh (by first|rfl|(rw[e];rfl)),?_⟩;refine⟨.fh (by first|rfl|(rw[e];rfl)),?_⟩;(iterate 3 refine aC ?_);exact trivial)) (by(refine aF ?_;refine⟨.box _ rfl ?_,?_⟩;refine⟨.fj (by first|rfl|(rw[e];rfl)) rfl,?_⟩;refine⟨.fj (by first|rfl|(rw[e];rfl)) rfl,?_⟩;refine⟨.fj (by first|rfl|(rw[e];rfl)) rfl,?_⟩;refine⟨.fh (by first|rfl|(rw[e];rfl)),?_⟩;refine⟨.fj (by first|rfl|(rw[e];rfl)) rfl,?_⟩;refine⟨.fh (by first|rfl|(rw[e];rfl)),?_⟩;refine⟨.fj (by first|rfl|(rw[e];rfl)) rfl,?_⟩;refine⟨.fj (by first|rfl|(rw[e];rfl)) rfl,?_⟩;refine⟨.fh (by first|rfl|(rw[e];rfl)),?_⟩;refine⟨.fh (by first|rfl|(rw[e];rfl)),?_⟩;refine⟨.fh (by first|rfl|(rw[e];rfl)),?_⟩;refine⟨.fj (by first|rfl|(rw[e];rfl)) rfl,?_⟩;refine⟨.fh (by first|rfl|(rw[e];rfl)),?_⟩;refine⟨.ia (by first|rfl|(rw[e];rfl)),?_⟩;refine⟨.ia (by first|rfl|(rw[e];rfl)),?_⟩;exact trivial;(iterate 3 refine aF ?_);refine⟨.ff rfl (by first|rfl|(rw[e];rfl)),?_⟩;(iterate 2 refine aF ?_);refine⟨.ff rfl (by first|rfl|(rw[e];rfl)),?_⟩;refine aF ?_;refine⟨.ff rfl (by first|rfl|(rw[e];rfl)),?_⟩;refine aF ?_;refine⟨.box _ rfl ?_,?_⟩;refine⟨.fh (by first|rfl|(rw[e];rfl)),?_⟩;refine⟨.ia (by first|rfl|(rw[e];rfl)),?_⟩;(iterate 2 exact trivial))) rfl⟩
  ·obtain rfl:v=n:=by omega
   rw[show(pd v t.model).take v=pd v t.model from List.take_of_length_le (by rw[NX];exact aP _)]
   have jq:=ht.D6
   have kz:=ht.TJ
   have Tv:=MO t jq
   have Y2:=Jy t aJ kz
   simp only[hX,hZ,P_,Ja] at Tv Y2
   (refine mD ?_;refine u7 ?_;refine a_.leq rfl rfl rfl rfl rfl ?_;refine zd ?_;refine vj ?_;refine AW.lE 15 ?_)
   refine Stop.go ?_
   refine AW.LM 12 rfl ?_
   refine aB ?_
   (refine zq ?_;(iterate 2 refine zm ?_);refine a_.fC rfl rfl rfl ?_;refine zX (Tv) ?_;refine kA ?_;refine a_.fC rfl rfl rfl ?_;refine zX (Y2) ?_;refine kA ?_;(iterate 4 refine za ?_);refine zd ?_;refine AW.ret ?_)
   (apply Eh (((k,pd v t.model,t.core,t.proof):Int×List Bool×List Int×List (List Int))) (⟨t,ht,rfl,rfl,rfl⟩);((exact BO.four (.tmp rfl rfl) (.tmp rfl rfl) (.tmp rfl rfl) (.tmp rfl rfl)));(((iterate 2 refine aC ?_);(iterate 2 exact trivial)));(skip);exact rfl)
end Go.Ab
/- What solving gives,in terms of assignments. -/
namespace Go.Ab
open Go Go.Proofs
def EU (v:List Bool):Nat→Bool:=fun u=>v.getD (u - 1) false
theorem oa {n:Nat} {v:List Bool} {x:Int} (hx:Lit n x):j8 (EU v) x↔jZ v x=true:=by
 obtain⟨h0,_,_⟩:=hx
 unfold j8 jZ EU
 by_cases h:x<0
 ·rw[if_pos h,if_neg aJ,if_pos h,show fm x - 1=(0 - x - 1).toNat by unfold fm;omega]
  cases v.getD (0 - x - 1).toNat false<;>simp
 ·rw[if_neg h,if_pos aJ,show fm x - 1=(x - 1).toNat by unfold fm;omega]
theorem np {n:Nat} {v:List Bool} {F:List (List Int)} (hF:∀c∈F,∀x∈c,Lit n x):mO (EU v) F↔allM v F=true:=by
 unfold mO allM kT
 simp only[bC,df]
 constructor
 ·intro h c hc
  obtain⟨x,hx,ht⟩:=h c hc
  exact⟨x,hx,(oa (hF c hc x hx)).1 ht⟩
 ·intro h c hc
  obtain⟨x,hx,ht⟩:=h c hc
  exact⟨x,hx,(oa (hF c hc x hx)).2 ht⟩
def zf (n:Nat) (L:List Int):List Bool:=(bc n).map fun i=>decide (((i+1:Nat):Int)∈L)
theorem JD (n:Nat) (L:List Int):(zf n L).length=n:=by simp [zf]
theorem vp {n:Nat} {L:List Int} {u:Nat} (h1:1≤u) (h2:u≤n):EU (zf n L) u=pG L u:=by
 unfold EU zf pG
 rw[c8,List.getElem?_map,List.getElem?_range aJ]
 simp only[Option.map_some,Option.getD_some]
 rw[show u - 1+1=u by omega]
theorem j8.congr {n:Nat} {σ τ:Nat→Bool} {x:Int} (hx:Lit n x) (h:∀u,1≤u→u≤n→σ u=τ u):j8 σ x↔j8 τ x:=by
 have:=jF hx
 unfold j8
 rw[h _ this.1 this.2]
theorem mO.congr {n:Nat} {σ τ:Nat→Bool} {F:List (List Int)} (hF:∀c∈F,∀x∈c,Lit n x) (h:∀u,1≤u→u≤n→σ u=τ u) (hs:mO σ F):mO τ F:=fun c hc=>by
 obtain⟨x,hx,ht⟩:=hs c hc
 exact⟨x,hx,(j8.congr (hF c hc x hx) h).1 ht⟩
section
variable {n:Nat} {F:List (List Int)} {A:List Int} {q:Int×List Bool×List Int×List (List Int)}
theorem fK.one (h:fK n F A q) (hn:n≤8):q.1=1∨q.1=2:=by
 obtain⟨t,h1,_⟩:=h
 rcases h1.res with ⟨e,_⟩|⟨e,_⟩|⟨_,_,_,e⟩
 ·exact .inl e
 ·exact .inr e
 ·exfalso
  have:3 ^ n≤3 ^ 8:=Nat.pow_le_pow_right aJ hn
  have:3 ^ 8=6561:=by decide
  omega
theorem fK.BD (h:fK n F A q):∀c∈F,∀x∈c,Lit n x:=by
 obtain⟨t,h1,_⟩:=h
 exact fun c hc=>h1.lits c (bW.2 (.inl hc))
theorem fK.Mk (h:fK n F A q) {σ:Nat→Bool} (hσ:mO σ F):mO σ (F++q.2.2.2):=by
 obtain⟨t,h1,_,_,e⟩:=h
 rw[e]
 exact h1.uh.sound hσ fun c hc x hx=>(h1.lits c hc x hx).1
theorem fK.unsat (h:fK n F A q) (h2:q.1=2) {σ:Nat→Bool} (hσ:mO σ F) (hA:∀x∈A,j8 σ x):False:=by
 have hL:=h.Mk hσ
 obtain⟨t,h1,_,_,e⟩:=h
 rcases h1.res with ⟨e1,_⟩|⟨_,_,P,e2,e3,_,e4⟩|⟨e1,_⟩
 ·omega
 ·rw[e,e2] at hL
  obtain⟨y,hy,ht⟩:=hL (t.core.map fun y=> -y) (by simp)
  obtain⟨x,hx,rfl⟩:=bw.1 hy
  exact(j8.neg (e4 x hx).1).1 ht (hA x (e3 x hx))
 ·omega
theorem fK.sat (h:fK n F A q) (h2:q.1=1):∃L,yd n F A L∧q.2.1=zf n L∧q.2.2.1=[]:=by
 obtain⟨t,h1,e1,e3,_⟩:=h
 rcases h1.res with ⟨_,L,e2,e4,hl⟩|⟨e2,_⟩|⟨e2,_⟩
 ·refine⟨L,hl,?_,by rw[e3,e4]⟩
  rw[e1,e2]
  unfold pd zf
  apply dS
  intro i hi
  have hi:=dG.1 hi
  rw[sF L aJ]
  by_cases h3:((i+1:Nat):Int)∈L
  ·rw[if_pos h3,decide_eq_true h3];rfl
  ·rw[if_neg h3,decide_eq_false h3,decide_eq_false_iff_not]
   split<;>omega
 ·omega
 ·omega
theorem fK.N2 (h:fK n F A q) (h2:q.1=1):q.2.1.length=n∧allM q.2.1 F=true:=by
 obtain⟨L,hl,e,_⟩:=h.sat h2
 rw[e]
 refine⟨JD n L,(np h.BD).1 (mO.congr h.BD (fun u h1 h2=>(vp h1 h2).symm) hl.sat)⟩
theorem fK.iff (h:fK n F A q) (hn:n≤8) (hA:∀x∈A,Lit n x):q.1=1↔∃v:List Bool,v.length=n∧allM v F=true∧od v A=true:=by
 constructor
 ·intro h2
  obtain⟨L,hl,e,_⟩:=h.sat h2
  obtain⟨q1,q2⟩:=h.N2 h2
  refine⟨q.2.1,q1,q2,?_⟩
  unfold od
  rw[bC]
  intro x hx
  rw[e,← oa (hA x hx)]
  exact(j8.congr (hA x hx) fun u h1 h2=>(vp h1 h2).symm).1 ((pT hl.iK hl.full (hA x hx)).2 (hl.qS x hx))
 ·rintro⟨v,q1,q2,q3⟩
  rcases h.one hn with e|e
  ·exact e
  ·exfalso
   refine h.unsat e ((np h.BD).2 q2) fun x hx=>(oa (hA x hx)).2 ?_
   unfold od at q3
   exact bC.1 q3 x hx
end
end Go.Ab
/- Unit propagation's run,and what is derived:the same. -/
namespace Go.Ab
open Go Go.Proofs
theorem xe {l:List Int}:gE l=true↔∃x∈l,-x∈l:=by
 unfold gE
 rw[df]
 simp
theorem MT {vars:Int} {cl:List (List Int)} {az:List Int} {A:Int→Prop} (hv:0≤vars) (jq:∀c∈cl,e_ vars c=true) (hw:e_ vars az=true) (hc:gE az=false) (hA:∀x∈az,A x):∀x∈(runM vars cl az).1,pw cl A x:=by
 refine B5 hv jq hw hc (fun t=>∀x∈t,pw cl A x) (fun x hx=> .qS (hA x ((oY az x).1 hx))) fun t c x FC hI _ ho hx _ _ y hy=>?_
 rcases bW.1 hy with hy|hy
 ·exact hI y hy
 ·rw[cp.1 hy]
  refine .unit FC hx fun z hz fZ=>?_
  rcases((o7 t c [] [x] ho).2 z hz).2 with q|q
  ·exact hI _ q
  ·exact absurd (by simpa using q) fZ
theorem ID {vars:Int} {cl:List (List Int)} {c:List Int} (hv:0≤vars) (jq:∀d∈cl,e_ vars d=true) (hc:e_ vars c=true):hU vars cl c=true↔PJ cl c:=by
 have Vb:∀d∈cl,∀x∈d,x≠0:=fun d hd x hx=>(fI (jq d hd) x hx).1
 have hw:e_ vars (c.map fun x=>0 - x)=true:=by
  unfold e_
  rw[bC]
  intro y hy
  obtain⟨x,hx,rfl⟩:=bw.1 hy
  have:=fI hc x hx
  simp only[decide_eq_true_eq]
  omega
 cases rP:gE (c.map fun x=>0 - x) with
 |true=>
  unfold hU
  rw[if_pos rP]
  refine⟨fun _=>?_,fun _=>rfl⟩
  obtain⟨y,hy,hn⟩:=xe.1 rP
  obtain⟨x,hx,rfl⟩:=bw.1 hy
  obtain⟨z,hz,e⟩:=bw.1 hn
  refine .inr ⟨x,hx,?_⟩
  rw[show -x=z by omega];exact hz
 |false=>
  have hF:=y9 hv jq hw rP
  unfold hU
  rw[if_neg (by rw[rP];simp),decide_eq_true_eq]
  constructor
  ·intro h
   rcases hF.fin with ⟨q,_⟩|⟨j,hj,_,q⟩
   ·omega
   ·left
    have hd:=MT (A:=D7 c) hv jq hw rP fun x hx=>by
     obtain⟨z,hz,rfl⟩:=bw.1 hx
     show -(0 - z)∈c
     rw[show -(0 - z)=z by omega];exact hz
    exact⟨cl[j],cZ hj,fun y hy=>hd _ (w6 (Vb _ (cZ hj)) q y hy)⟩
  ·intro h
   rcases hF.fin with ⟨_,q⟩|⟨j,hj,e,_⟩
   ·exfalso
    have hT:=hF.dist
    have jb:∀x,pw cl (D7 c) x→x∈(runM vars cl (c.map fun x=>0 - x)).1:=fun x hx=>by
     induction hx with
     | @qS x h=>
      rw[hF.mem]
      exact bW.2 (.inl (bw.2 ⟨-x,h,by omega⟩))
     | @unit d x hd hx _ ih=>exact uA hT (Vb d hd) (q d hd) ih
    rcases h with ⟨d,hd,iT⟩|⟨x,h1,h2⟩
    ·have:=uA (x:=0) hT (Vb d hd) (q d hd) fun y hy _=>jb _ (iT y hy)
     exact(hT.2 0 this).1 rfl
    ·have:gE (c.map fun x=>0 - x)=true:=xe.2 ⟨0 - x,bw.2 ⟨x,h1,rfl⟩,bw.2 ⟨-x,h2,by omega⟩⟩
     rw[rP] at this;cases this
   ·omega
end Go.Ab
/- The laws through the layers:the examples at their heads. -/
namespace Go.Ab
open Go Go.Proofs
set_option maxRecDepth 20000
set_option maxHeartbeats 8000000
def jD (P:List (List Int)):List gH:=P.map fun l=>⟨1,l,0⟩
theorem yp (P:List (List Int)):P.map mI=(jD P).map encS:=by
 unfold jD
 rw[cT];rfl
theorem Du {v:Int} {cl:List (List Int)} {s:List (List Int)}:rL ⟨v,cl,s⟩ (iB v cl) [] where
 len:=fun v h1 h2=>h1
 all:=fun v h1 h2=>h2
 pre:=fun v h1 h2=>⟨[],by rw[List.append_nil];rfl⟩
 yG:=fun hr v h1 h2=>by
  have hr:(cl.any fun c=>decide ((c.length:Int)=0))=true:=hr
  obtain⟨c,hc,h0⟩:=df.1 hr
  have h0:c=[]:=bj (by simpa using h0)
  have:=bC.1 h2 c hc
  rw[h0] at this
  simp [kT] at this
def Ch (n:Nat) (cl syms:List (List Int)) (l:List gH):Bool:=decide ((jd ⟨n,cl,syms⟩ (iB n cl) l).2=l.length) && (jd ⟨n,cl,syms⟩ (iB n cl) l).1.ref
theorem Dr {n:Nat} {cl syms:List (List Int)} {l:List gH} (jb:Lk n cl syms l) (h:Ch n cl syms l=true) {v:List Bool} (h1:v.length=n) (h2:allM v cl=true):False:=by
 unfold Ch at h
 rw[aZ,decide_eq_true_eq] at h
 exact(yH (e:=⟨n,cl,syms⟩) (fun c hc=>(jb.jq c hc).1) (by show(0:Int)≤n;omega) l Du jb.ok jb.hl.2 h.1).2 h.2 v (by rw[h1]) h2
theorem F1:∀(P:List (List Int)),wS (jD P)=P.length
 |[]=>rfl
 |c::P=>by
  have ih:=F1 P
  unfold wS jD at*
  simp only[List.map_cons,List.sum_cons,dP]
  rw[show wT ⟨1,c,0⟩=1 from if_neg (show ¬(1:Int)=3 by decide)]
  omega
theorem fK.Yf {n:Nat} {F:List (List Int)} {A:List Int} {q:Int×List Bool×List Int×List (List Int)} (h:fK n F A q) (hn:n≤400) {G:List (List Int)} (hG:∀c∈G,e_ n c=true∧c.length≤1000) (V6:G.length≤1000):Lk n G [] (jD q.2.2.2):=by
 obtain⟨t,h1,_,_,e⟩:=h
 have hlen:∀c∈t.proof,c.length≤2*n+2:=fun c hc=>by
  have:=kn (n:=2*n+2) (l:=c.map eW) (by
   unfold List.Nodup
   rw[dB]
   exact(h1.nd c hc).imp_of_mem fun {a b} ha hb r8 e=>r8 (ie (h1.lits c (bW.2 (.inr hc)) a ha) (h1.lits c (bW.2 (.inr hc)) b hb) (by rw[e]))) fun v hv=>by
   obtain⟨a,ha,rfl⟩:=bw.1 hv
   have:=ix (h1.lits c (bW.2 (.inr hc)) a ha)
   omega
  simpa using this
 have hw:=F1 t.proof
 have hp:=h1.plen2
 rw[e]
 refine⟨by omega,hG,V6,⟨by simp,fun c hc=>by simp at hc⟩,⟨?_,fun s hs=>?_⟩,by unfold jD;rw[a6];exact hp⟩
 ·omega
 ·unfold jD at hs
  obtain⟨c,hc,rfl⟩:=bw.1 hs
  have:=hlen c hc
  show c.length≤900
  omega
theorem fK.ZF {n:Nat} {F:List (List Int)} {A:List Int} {q:Int×List Bool×List Int×List (List Int)} (h:fK n F A q) (hn:n≤8) {G:List (List Int)} (hG:∀c∈G,e_ n c=true∧c.length≤1000) (V6:G.length≤1000):Lk n G [] (jD q.2.2.2):=h.Yf aJ hG V6
abbrev QS:List (List Int):=[[1,2],[-1,2],[1,-2]]
abbrev Ut:List (List Int):=[[1,2],[-1,2],[1,-2],[-1,-2]]
theorem NG:∀v:List Bool,v.length=2→allM v QS=true→v=[true,true]:=by
 intro v h1 h2
 match v,h1 with
 |[a,b],_=>cases a<;>cases b<;>first|rfl|(exfalso;revert h2;decide)
theorem JC:∀v:List Bool,v.length=2→allM v Ut=true→False:=by
 intro v h1 h2
 match v,h1 with
 |[a,b],_=>cases a<;>cases b<;>(revert h2;decide)
theorem Jr {F:List (List Int)} (h:(F.all fun c=>c.all fun x=>decide (x≠0∧ -2≤x∧x≤2))=true):∀c∈F,∀x∈c,Lit 2 x:=fun c hc x hx=>by
 rw[bC] at h
 have:=bC.1 (h c hc) x hx
 simp only[decide_eq_true_eq] at this
 exact⟨this.1,by omega,by omega⟩
theorem Ck {F:List (List Int)} (h:∀c∈F,∀x∈c,Lit 2 x) (h2:(F.all fun c=>decide (c.length≤2))=true):(∀c∈F,c.length≤1000000∧∀x∈c,Lit 2 x)∧∀c∈F,e_ (2:Nat) c=true∧c.length≤1000:=by
 rw[bC] at h2
 refine⟨fun c hc=>⟨by have:=h2 c hc;simp at this;omega,h c hc⟩,fun c hc=>⟨?_,by have:=h2 c hc;simp at this;omega⟩⟩
 unfold e_
 rw[bC]
 intro x hx
 obtain⟨_,_,_⟩:=h c hc x hx
 simp only[decide_eq_true_eq]
 omega
theorem VT:e_ (2:Nat) [1]=true:=by decide
attribute [local irreducible] AW a_ ga ft AR fB fp fG fU canon l4 kd ox pA mN e_ jg hU jd ig
theorem Iz:Fn Tryz.prog 5 [] (fu true):=by
 obtain⟨f1,f2⟩:=Ck (F:=QS) (Jr (by decide)) (by decide)
 obtain⟨g1,g2⟩:=Ck (F:=Ut) (Jr (by decide)) (by decide)
 have h1:=tV 2 QS [] aJ (by simp) f1 (by simp) (by simp)
 have h2:=tV 2 Ut [1] aJ (by simp) g1 (by intro x hx;simp at hx;subst hx;exact⟨by omega,by omega,by omega⟩) (by simp)
 refine Fn.enter (n:=77) Tryz.func5 rfl rfl rfl rfl rfl (by decide) fun g fE fD=>?_;(try refine nz ?_)
 (refine sK ?_;refine Uq ?_;refine a_.Vk rfl rfl rfl rfl rfl rfl rfl rfl rfl rfl rfl rfl rfl rfl ?_;refine Sr ?_;refine a_.M9 rfl rfl ?_;refine nz ?_;(with_reducible apply a_.kc (hf:=h1));(with_reducible assumption);(iterate 3 exact rfl);exact aq;exact ak;(intro x_;exact rfl);exact rfl;exact al;(intro x_;exact al);(intro x_;exact rfl);exact rfl;(intro x_ pI);refine J1 ?_;refine nz ?_;refine Pq ?_;refine AW.lE 3 ?_)
 obtain⟨k,vals,core,P⟩:=x_
 have hs:=pI
 simp only at hs ⊢
 have hk:k=1:=(hs.iff aJ (by simp)).2 ⟨[true,true],rfl,by decide,by decide⟩
 subst hk
 obtain⟨q1,q2⟩:=hs.N2 rfl
 have hv:=NG vals q1 q2
 subst hv
 refine Stop.go ?_
 (refine mF ?_;refine HB ?_;refine nz ?_;refine Uq ?_;refine a_.Jn rfl rfl ?_;refine nz ?_;refine a_.Va rfl rfl rfl rfl rfl rfl rfl rfl rfl rfl rfl rfl rfl rfl rfl rfl rfl ?_;refine Sr ?_;refine x7 ?_;refine a_.M9 rfl rfl ?_;refine nz ?_;refine a_.M9 rfl rfl ?_;refine nz ?_;(with_reducible apply a_.kc (hf:=h2));(with_reducible assumption);(iterate 3 exact rfl);exact aq;exact ak;(intro x_;exact rfl);exact rfl;exact al;(intro x_;exact al);(intro x_;exact rfl);exact rfl;(intro x_ pI);refine J1 ?_;refine nz ?_;refine Pq ?_;refine zo ?_;refine AW.lE 5 ?_)
 obtain⟨k2,vals2,core2,P2⟩:=x_
 have TZ:=pI
 simp only at TZ ⊢
 refine Stop.go ?_
 have sd:k2=2:=(TZ.one aJ).resolve_left fun e=>by
  obtain⟨q1,q2⟩:=TZ.N2 e
  exact JC vals2 q1 q2
 subst sd
 have jq:core2.length≤1∧0<P2.length:=by
  obtain⟨t,t1,_,t2,t3⟩:=TZ
  rcases t1.res with ⟨e,_⟩|⟨_,_,Q,e1,e2,e3,_⟩|⟨e,_⟩
  ·cases e
  ·have t2:core2=t.core:=t2
   have t3:P2=t.proof:=t3
   refine⟨?_,by rw[t3,e1];simp⟩
   rw[t2]
   match t.core,e2,e3 with
   |[],_,_=>simp
   |[a],_,_=>simp
   |a::b::r,e2,e3=>
    exfalso
    have ha:=e2 a (by simp)
    have hb:=e2 b (by simp)
    simp at ha hb
    subst ha
    subst hb
    simp at e3
  ·cases e
 obtain⟨c1,c2⟩:=jq
 have jb:=TZ.ZF aJ (G:=QS) f2 (by simp)
 have hr:=Dy (2:Nat) QS [] (jD P2) jb
 have UI:Ch 2 QS [] (jD P2)=false:=by
  cases h:Ch 2 QS [] (jD P2) with
  |false=>rfl
  |true=>exact(Dr jb h (v:=[true,true]) rfl (by decide)).elim
 unfold Ch at UI
 rw[UI] at hr
 rw[show steps (jD P2)=PV.slice 3 (P2.map mI) from by rw[yp]] at hr
 have hi:=FG (2:Nat) Ut [1] ⟨by omega,fun c hc=>⟨(g2 c hc).1,by have:=(g2 c hc).2;omega⟩,by simp⟩ (by simp) VT
 rw[show hU (2:Nat) Ut [1]=true by decide+kernel] at hi
 have hP:¬((P2.length:Nat):Int)=0:=by omega
 (refine pZ ?_;refine zn ?_;refine a_.neq rfl rfl rfl rfl rfl ?_;refine xH ?_;refine zn ?_;refine zl ?_;refine a_.eql rfl rfl rfl rfl rfl ?_;refine a_.iy rfl rfl rfl rfl rfl rfl ?_;refine vD ?_;refine pZ ?_;refine a_.eql rfl rfl rfl rfl rfl ?_;(iterate 2 refine Yr ?_);refine xH ?_;refine L4 ?_;refine xH ?_;refine zn ?_;refine zl ?_;refine a_.leq rfl rfl rfl rfl rfl ?_;refine Dv ?_;refine zt ?_;refine zL ?_;refine nz ?_;refine zh ?_;refine zA (hr) ?_;refine zt ?_;refine a_.not rfl rfl rfl ?_;refine zT ?_;refine kv ?_;refine zL ?_;refine nz ?_;refine zl ?_;refine x7 ?_;refine zl ?_;refine zA (hi) ?_;refine a_.iM rfl rfl rfl rfl rfl rfl ?_;refine kH ?_)
 (apply e9;(exact gn.one (.tmp rfl rfl));(refine Le.fu ?_;(first|rfl)))
end Go.Ab
/- The laws through the layers:learned clauses are redundant. -/
namespace Go.Ab
open Go Go.Proofs
open Nat (reduceAdd reduceSub)
set_option maxRecDepth 20000
set_option maxHeartbeats 8000000
theorem yd.uniq {n:Nat} {F G:List (List Int)} {A L M:List Int} (h1:yd n F A L) (h2:yd n G A M) (o9:∀x∈A,Lit n x) (hs:∀σ,mO σ F↔mO σ G):zf n L=zf n M:=by
 have key:∀v:Nat,1≤v→v≤n→pG L v=pG M v:=by
  intro v
  induction v using Nat.strongRecOn with
  |ind v ih=>
   intro q1 q2
   have e1:=fun h=>h1.min (pG M) ((hs _).2 h2.sat) (fun x hx=>(pT h2.iK h2.full (o9 x hx)).2 (h2.qS x hx)) v q1 q2 (fun u p1 p2=>(ih u p2 p1 aJ).symm) h
   have e2:=fun h=>h2.min (pG L) ((hs _).1 h1.sat) (fun x hx=>(pT h1.iK h1.full (o9 x hx)).2 (h1.qS x hx)) v q1 q2 (fun u p1 p2=>ih u p2 p1 aJ) h
   cases ha:pG L v with
   |true=>rw[e1 ha]
   |false=>
    cases hb:pG M v with
    |false=>rfl
    |true=>rw[e2 hb] at ha;cases ha
 unfold zf
 apply dS
 intro i hi
 exact key (i+1) aJ (by have:=dG.1 hi;omega)
theorem fK.same {n:Nat} {F G:List (List Int)} {A:List Int} {q r:Int×List Bool×List Int×List (List Int)} (hq:fK n F A q) (hr:fK n G A r) (hn:n≤8) (hA:∀x∈A,Lit n x) (hs:∀σ,mO σ F↔mO σ G):q.1=r.1∧(q.1=1→q.2.1=r.2.1):=by
 have X_:q.1=1↔r.1=1:=by
  rw[hq.iff hn hA,hr.iff hn hA]
  constructor
  ·rintro⟨v,p1,p2,p3⟩
   exact⟨v,p1,(np hr.BD).1 ((hs _).1 ((np hq.BD).2 p2)),p3⟩
  ·rintro⟨v,p1,p2,p3⟩
   exact⟨v,p1,(np hq.BD).1 ((hs _).2 ((np hr.BD).2 p2)),p3⟩
 have h1:=hq.one hn
 have h2:=hr.one hn
 refine⟨by omega,fun h=>?_⟩
 obtain⟨L,l1,l2,_⟩:=hq.sat h
 obtain⟨M,m1,m2,_⟩:=hr.sat (X_.1 h)
 rw[l2,m2]
 exact l1.uniq m1 hA hs
theorem fK.N8 {n:Nat} {F:List (List Int)} {A:List Int} {q:Int×List Bool×List Int×List (List Int)} (h:fK n F A q):∀c∈q.2.2.2,c.length≤2*n+2:=fun c hc=>by
 obtain⟨t,h1,_,_,e⟩:=h
 rw[e] at hc
 have:=kn (n:=2*n+2) (l:=c.map eW) (by
  unfold List.Nodup
  rw[dB]
  exact(h1.nd c hc).imp_of_mem fun {a b} ha hb r8 e=>r8 (ie (h1.lits c (bW.2 (.inr hc)) a ha) (h1.lits c (bW.2 (.inr hc)) b hb) (by rw[e]))) fun v hv=>by
  obtain⟨a,ha,rfl⟩:=bw.1 hv
  have:=ix (h1.lits c (bW.2 (.inr hc)) a ha)
  omega
 simpa using this
theorem rj {n:Nat} {c:List Int} (h:∀x∈c,Lit n x):e_ n c=true:=by
 unfold e_
 rw[bC]
 intro x hx
 obtain⟨_,_,_⟩:=h x hx
 simp only[decide_eq_true_eq]
 omega
attribute [local irreducible] AW a_ ga ft AR fB fp fG fU canon l4 kd ox pA mN e_ jg hU jd ig ml
end Go.Ab
/- Assignments by number. -/
namespace Go.Ab
open Go Go.Proofs
def kU:Nat→Nat→List Bool
 |0,_=>[]
 |n+1,k=>kU n (k / 2)++ [decide (k % 2=1)]
theorem ot:∀n k,(kU n k).length=n
 |0,_=>rfl
 |n+1,k=>by simp [kU,ot n]
theorem mT {n k u:Nat} (h:u<n):(kU (n+1) k).getD u false=(kU n (k / 2)).getD u false:=by
 rw[kU,c8,c8,List.getElem?_append_left (by rw[ot];exact h)]
theorem yT {n k:Nat}:(kU (n+1) k).getD n false=decide (k % 2=1):=by
 rw[kU,c8,aV (by rw[ot];exact aP _),ot,Nat.sub_self]
 rfl
theorem B9:∀{n i m:Nat},i<m→m<2 ^ n→∃v,v<n∧(∀u,u<v→(kU n i).getD u false=(kU n m).getD u false)∧(kU n i).getD v false=false∧(kU n m).getD v false=true
 |0,i,m,h1,h2=>by simp at h2;omega
 |n+1,i,m,h1,h2=>by
  rw[dU] at h2
  by_cases h:i / 2<m / 2
  ·obtain⟨v,q1,q2,q3,q4⟩:=B9 (n:=n) h (by omega)
   exact⟨v,by omega,fun u hu=>by rw[mT aJ,mT aJ];exact q2 u hu,by rw[mT q1];exact q3,by rw[mT q1];exact q4⟩
  ·have he:i / 2=m / 2:=by omega
   refine⟨n,by omega,fun u hu=>by rw[mT hu,mT hu,he],?_,?_⟩
   ·rw[yT,decide_eq_false_iff_not];omega
   ·rw[yT,decide_eq_true_eq];omega
theorem C3:∀{n:Nat} {l:List Bool},l.length=n→∃k,k<2 ^ n∧kU n k=l
 |0,l,h=>⟨0,by simp,by rw[bj h];rfl⟩
 |n+1,l,h=>by
  obtain⟨k,h1,h2⟩:=C3 (n:=n) (l:=l.dropLast) (by rw[List.length_dropLast,h];rfl)
  have fZ:l≠ []:=by intro e;rw[e] at h;simp at h
  have hl:=List.dropLast_concat_getLast fZ
  rw[dU]
  cases hb:l.getLast fZ with
  |true=>
   refine⟨2*k+1,by omega,?_⟩
   rw[kU,show(2*k+1) / 2=k by omega,h2,decide_eq_true (show(2*k+1) % 2=1 by omega),← hb]
   exact hl
  |false=>
   refine⟨2*k,by omega,?_⟩
   rw[kU,show(2*k) / 2=k by omega,h2,decide_eq_false (show ¬(2*k) % 2=1 by omega),← hb]
   exact hl
def BZ (n:Nat) (cl:List (List Int)) (a:List Int) (i:Nat):Bool:=allM (kU n i) cl && od (kU n i) a
end Go.Ab
/- The solver's proof is one for the checker;the least assignment's number. -/
namespace Go.Ab
open Go Go.Proofs
set_option maxRecDepth 20000
set_option maxHeartbeats 4000000
theorem Cs {e:pK} {s:n5} {c:List Int} (h1:e_ s.vars c=true) (h2:hU s.vars s.cl c=true):ig e s ⟨1,c,0⟩=some (w9 s c):=by
 rw[Aj rfl,ni,if_pos ⟨rfl,h1,h2⟩]
theorem yc {e:pK} {n:Nat} {F P:List (List Int)} (UT:uv F P) (hl:∀c∈F++P,∀x∈c,Lit n x):∀(k i:Nat),i+k=P.length→∀s:n5,s.vars=n→s.cl=F++P.take i→(jd e s (jD (P.drop i))).2=k∧(jd e s (jD (P.drop i))).1.ref=(s.ref||(P.drop i).any fun c=>decide ((c.length:Int)=0))
 |0,i,h,s,h1,h2=>by
  rw[List.drop_of_length_le (show P.length≤i by omega)]
  exact⟨rfl,by simp [jD,jd]⟩
 |k+1,i,h,s,h1,h2=>by
  have hi:i<P.length:=by omega
  have YF:∀x∈P[i],Lit n x:=hl _ (bW.2 (.inr (cZ hi)))
  have hr:hU n (F++P.take i) P[i]=true:=(ID aJ (fun d hd=>rj (hl d (by
   rcases bW.1 hd with q|q
   ·exact bW.2 (.inl q)
   ·exact bW.2 (.inr (List.mem_of_mem_take q))))) (rj YF)).2 (UT i hi)
  have hs:ig e s ⟨1,P[i],0⟩=some (w9 s P[i]):=Cs (by rw[h1];exact rj YF) (by rw[h1,h2];exact hr)
  have ih:=yc (e:=e) UT hl k (i+1) aJ (w9 s P[i]) h1 (by
   show s.cl++ [P[i]]=_
   rw[h2,dV,← dp hi])
  rw[List.drop_eq_getElem_cons hi,show jD (P[i]::P.drop (i+1))=⟨1,P[i],0⟩::jD (P.drop (i+1)) from rfl,yq hs]
  refine⟨by rw[ih.1],?_⟩
  rw[ih.2,List.any_cons]
  show((s.ref||_)||_)=_
  rw[Bool.or_assoc]
section
variable {n:Nat} {F:List (List Int)} {A:List Int} {q:Int×List Bool×List Int×List (List Int)}
theorem fK.run {e:pK} (h:fK n F A q):(jd e (iB n F) (jD q.2.2.2)).2=q.2.2.2.length∧(jd e (iB n F) (jD q.2.2.2)).1.ref=((F.any fun c=>decide ((c.length:Int)=0))||q.2.2.2.any fun c=>decide ((c.length:Int)=0)):=by
 obtain⟨t,h1,_,_,e⟩:=h
 rw[e]
 exact yc h1.uh h1.lits t.proof.length 0 aJ (iB n F) rfl (by simp [iB])
theorem fK.core (h:fK n F A q) (h2:q.1=2):∃P,q.2.2.2=P++ [q.2.2.1.map fun y=> -y]∧(∀y∈q.2.2.1,y∈A)∧(∀y∈q.2.2.1,Lit n y)∧q.2.2.1.length≤2*n+2:=by
 have K7:=h.N8
 obtain⟨t,h1,_,e3,e⟩:=h
 rcases h1.res with ⟨e1,_⟩|⟨_,_,P,e2,e4,_,e5⟩|⟨e1,_⟩
 ·omega
 ·rw[e3]
  refine⟨P,by rw[e,e2],e4,e5,?_⟩
  have:=K7 (t.core.map fun y=> -y) (by rw[e,e2];simp)
  simpa using this
 ·omega
theorem fK.Ye (h:fK n F A q):∀c∈q.2.2.2,∀x∈c,Lit n x:=by
 obtain⟨t,h1,_,_,e⟩:=h
 rw[e]
 exact fun c hc=>h1.lits c (bW.2 (.inr hc))
theorem fK.plen (h:fK n F A q):q.2.2.2.length≤20000:=by
 obtain⟨t,h1,_,_,e⟩:=h
 rw[e]
 exact h1.plen2
theorem fK.Ch (h:fK n F A q) (h2:q.1=2) (hA:A=[]):Ch n F [] (jD q.2.2.2)=true:=by
 obtain⟨P,e,hc,_,_⟩:=h.core h2
 have hr:=h.run (e:=⟨n,F,[]⟩)
 have De:q.2.2.1=[]:=by
  cases e2:q.2.2.1 with
  |nil=>rfl
  |cons x l=>
   have:=hc x (by rw[e2];simp)
   rw[hA] at this;simp at this
 unfold Go.Ab.Ch
 rw[hr.1,hr.2,aZ,decide_eq_true_eq]
 refine⟨by unfold jD;rw[a6],?_⟩
 rw[Bool.or_eq_true]
 right
 rw[df]
 exact⟨_,by rw[e];exact bW.2 (.inr (cp.2 rfl)),by rw[De];rfl⟩
end
theorem MG {v:List Bool} {u:Nat}:EU v (u+1)=v.getD u false:=rfl
section
variable {n:Nat} {F:List (List Int)} {A:List Int} {q:Int×List Bool×List Int×List (List Int)}
theorem fK.least (h:fK n F A q) (hn:n≤8) (hA:∀x∈A,Lit n x) {i:Nat} (hg:BZ n F A i=true) (IY:∀j,j<i→BZ n F A j=false):q.1=1∧q.2.1=kU n i:=by
 unfold BZ at hg
 rw[aZ] at hg
 have h1:q.1=1:=(h.iff hn hA).2 ⟨_,ot n i,hg.1,hg.2⟩
 refine⟨h1,?_⟩
 obtain⟨L,hL,e,_⟩:=h.sat h1
 obtain⟨q1,q2⟩:=h.N2 h1
 obtain⟨m,hm,em⟩:=C3 q1
 have U7:BZ n F A m=true:=by
  unfold BZ
  rw[em,q2,Bool.true_and]
  unfold od
  rw[bC]
  intro x hx
  rw[e,← oa (hA x hx)]
  exact(j8.congr (hA x hx) fun u h1 h2=>(vp h1 h2).symm).1 ((pT hL.iK hL.full (hA x hx)).2 (hL.qS x hx))
 rw[← em]
 by_cases UL:m=i
 ·rw[UL]
 ·exfalso
  have H2:i<m:=by
   by_cases fx:m<i
   ·rw[IY m fx] at U7;cases U7
   ·omega
  obtain⟨v,v1,v2,v3,v4⟩:=B9 H2 hm
  have s7:∀u,u<n→pG L (u+1)=(kU n m).getD u false:=fun u hu=>by
   rw[em,e,← vp (n:=n) aJ aJ];rfl
  have:=hL.min (EU (kU n i)) ((np h.BD).2 hg.1) (fun x hx=>(oa (hA x hx)).2 (bC.1 hg.2 x hx)) (v+1) aJ aJ (fun u u1 u2=>by
   obtain⟨w,rfl⟩:∃w,u=w+1:=⟨u - 1,by omega⟩
   rw[s7 w aJ]
   exact v2 w aJ) (by rw[s7 v v1];exact v4)
  rw[MG,v3] at this
  cases this
end
end Go.Ab
/- Chapter 19:circuits,in plain terms. -/
namespace Go.Ab.N19
open Go Go.Proofs Go.Ab
set_option maxRecDepth 20000
set_option maxHeartbeats 4000000
structure iZ where
 k:Int
 a:Int
 b:Int
deriving DecidableEq
def gOk (g:iZ) (i:Nat):Prop:=(g.k=1∧1≤g.a∧g.a≤8∧g.b=0)∨(g.k=2∧2≤g.a∧g.a<g.b∧g.b<2*(i:Int)∧g.a / 2≠g.b / 2)
structure pg (gs:List iZ):Prop where
 zero:gs[0]? =some ⟨0,0,0⟩
 ok:∀(i:Nat) (h:i<gs.length),i≠0→gOk gs[i] i
def FT (gs:List iZ) (r:Int):Prop:=0≤r∧r<2*(gs.length:Int)
theorem pg.pos {gs:List iZ} (h:pg gs):0<gs.length:=(List.getElem?_eq_some_iff.1 h.zero).1
theorem FT.mono {gs gs':List iZ} {r:Int} (h:FT gs r) (hl:gs.length≤gs'.length):FT gs' r:=by unfold FT at*;omega
def XM (vals:List Bool) (a:Int):Bool:=vals.getD (a - 1).toNat false
def SW (done:List Bool) (r:Int):Bool:=done.getD (r / 2).toNat false==decide (r % 2=0)
def KC (vals done:List Bool) (g:iZ):Bool:=if g.k=1 then XM vals g.a else if g.k=2 then SW done g.a && SW done g.b else true
def vN (gs:List iZ) (vals:List Bool):Nat→List Bool
 |0=>[]
 |i+1=>vN gs vals i++ [KC vals (vN gs vals i) (gs.getD i ⟨0,0,0⟩)]
theorem tk (gs:List iZ) (vals:List Bool):∀i,(vN gs vals i).length=i
 |0=>rfl
 |i+1=>by rw[vN,bV,tk gs vals i];rfl
def Am (gs:List iZ) (vals:List Bool) (i:Nat):Bool:=(vN gs vals (i+1)).getD i false
def Ox (gs:List iZ) (vals:List Bool) (r:Int):Bool:=Am gs vals (r / 2).toNat==decide (r % 2=0)
theorem Mg (gs:List iZ) (vals:List Bool) (i:Nat):Am gs vals i=KC vals (vN gs vals i) (gs.getD i ⟨0,0,0⟩):=by
 unfold Am
 rw[vN,c8,aV (by rw[tk];omega),tk]
 simp
theorem Mx {gs:List iZ} (vals:List Bool) {i:Nat} (hi:i<gs.length) (hk:gs[i].k=1):Am gs vals i=XM vals gs[i].a:=by
 have hg:gs.getD i ⟨0,0,0⟩=gs[i]:=by rw[c8,a8 hi];rfl
 rw[Mg,hg,KC,if_pos hk]
end Go.Ab.N19
/- Chapter 19:the gates that a reference needs,in plain terms. -/
namespace Go.Ab.N19
open Go Go.Proofs Go.Ab
set_option maxRecDepth 20000
set_option maxHeartbeats 4000000
def sZ (gs:List iZ) (i:Nat):iZ:=gs.getD i ⟨0,0,0⟩
def visitM (gs:List iZ):Nat→List Int→Nat→List Int
 |0,met,_=>met
 |n+1,met,i=>if (sZ gs i).k=2∧¬(i:Int)∈met then visitM gs n (visitM gs n (met++ [(i:Int)]) ((sZ gs i).a / 2).toNat) ((sZ gs i).b / 2).toNat else met
theorem xg {gs:List iZ} {i:Nat} (h:i<gs.length):sZ gs i=gs[i]:=by unfold sZ;rw[c8,a8 h];rfl
theorem Ku {gs:List iZ} {i:Nat} (h:(sZ gs i).k=2):i<gs.length:=by
 by_cases hi:i<gs.length
 ·exact hi
 ·unfold sZ at h
  rw[c8,cD aJ] at h
  simp at h
theorem pg.and {gs:List iZ} (hc:pg gs) {i:Nat} (hk:(sZ gs i).k=2):2≤(sZ gs i).a∧(sZ gs i).a<(sZ gs i).b∧(sZ gs i).b<2*(i:Int)∧(sZ gs i).a / 2≠(sZ gs i).b / 2:=by
 have hi:=Ku hk
 rw[xg hi] at hk ⊢
 have h0:i≠0:=fun e=>by
  subst e
  have:=hc.zero
  rw[a8 hi] at this
  rw[Option.some.inj this] at hk
  simp at hk
 rcases hc.ok i hi h0 with h|h
 ·omega
 ·exact⟨h.2.1,h.2.2.1,h.2.2.2.1,h.2.2.2.2⟩
theorem pg.kind {gs:List iZ} (hc:pg gs) {i:Nat} (hi:i<gs.length) (h0:i≠0):((sZ gs i).k=1∧1≤(sZ gs i).a∧(sZ gs i).a≤8)∨(sZ gs i).k=2:=by
 rw[xg hi]
 rcases hc.ok i hi h0 with h|h
 ·exact .inl ⟨h.1,h.2.1,h.2.2.1⟩
 ·exact .inr h.1
noncomputable def JW (gs:List iZ) (r:Int):List Int:=canon (visitM gs gs.length [] (r / 2).toNat)
structure I7 (gs:List iZ) (r:Int) (G:List Int):Prop where
 inc:RC G
 and:∀x∈G,0≤x∧x≤r / 2∧(sZ gs x.toNat).k=2
 self:(sZ gs (r / 2).toNat).k=2→r / 2∈G
 kids:∀x∈G,((sZ gs ((sZ gs x.toNat).a / 2).toNat).k=2→(sZ gs x.toNat).a / 2∈G)∧((sZ gs ((sZ gs x.toNat).b / 2).toNat).k=2→(sZ gs x.toNat).b / 2∈G)
end Go.Ab.N19
/- Chapter 19:the formula of a reference,in plain terms. -/
namespace Go.Ab.N19
open Go Go.Proofs Go.Ab
set_option maxRecDepth 20000
set_option maxHeartbeats 4000000
def rQ (w:List Bool) (l:Int):Bool:=w.getD (max l (-l) - 1).toNat false==decide (0<l)
def eW (G:List Int) (x:Int):Nat:=G.findIdx (fun y=>decide (y=x))
theorem ix {G:List Int} {x:Int} (h:x∈G):eW G x<G.length:=by
 unfold eW
 rw[List.findIdx_lt_length]
 exact⟨x,h,by simp⟩
def B8 (gs:List iZ) (n:Int) (G:List Int) (x:Int):Int:=if x∈G then n+1+(eW G x:Nat) else (sZ gs x.toNat).a
def Ai (gs:List iZ) (n:Int) (G:List Int) (r:Int):Int:=if r % 2=1 then -(B8 gs n G (r / 2)) else B8 gs n G (r / 2)
structure G7 (gs:List iZ) (G:List Int) (x:Int):Prop where
 lo:2≤x
 hi:x<2*(gs.length:Int)
 and:(sZ gs (x / 2).toNat).k=2→x / 2∈G
theorem La {gs:List iZ} {n:Int} {G:List Int} {x:Int} (h:x∈G):B8 gs n G x=n+1+(eW G x:Nat):=if_pos h
theorem I7.own {gs:List iZ} {r:Int} {G:List Int} (h:I7 gs r G) {x:Int} (hx:x∈G) (hc:pg gs):G7 gs G (2*x):=by
 obtain⟨h0,_,hk⟩:=h.and x hx
 obtain⟨h1,h2,h3,h4⟩:=hc.and hk
 have:=Ku hk
 exact⟨by omega,by omega,fun _=>by rwa [show 2*x / 2=x by omega]⟩
theorem G7.var {gs:List iZ} (hc:pg gs) {G:List Int} {x:Int} (h:G7 gs G x) {n:Int} (hn:8≤n):1≤B8 gs n G (x / 2)∧B8 gs n G (x / 2)≤n+(G.length:Nat):=by
 unfold B8
 by_cases hx:x / 2∈G
 ·rw[if_pos hx]
  have:=ix hx
  omega
 ·rw[if_neg hx]
  have h1:=h.lo
  have h2:=h.hi
  rcases hc.kind (i:=(x / 2).toNat) aJ aJ with h3|h3
  ·omega
  ·exact absurd (h.and h3) hx
theorem G7.lit {gs:List iZ} (hc:pg gs) {G:List Int} {x:Int} (h:G7 gs G x) {n:Int} (hn:8≤n):Ai gs n G x≠0∧Ai gs n G x≤n+(G.length:Nat)∧ -(n+(G.length:Nat):Int)≤Ai gs n G x:=by
 have:=h.var hc hn
 unfold Ai
 split<;>omega
theorem He {w:List Bool} {l:Int} (h:l≠0):rQ w (-l)=!(rQ w l):=by
 unfold rQ
 rw[show max (-l) (- -l)=max l (-l) by omega]
 by_cases h0:0<l
 ·rw[decide_eq_true h0,decide_eq_false (show ¬0< -l by omega)]
  cases w.getD (max l (-l) - 1).toNat false<;>rfl
 ·rw[decide_eq_false h0,decide_eq_true (show 0< -l by omega)]
  cases w.getD (max l (-l) - 1).toNat false<;>rfl
theorem Gz {w:List Bool} {l:Int} (h:1≤l):rQ w l=w.getD (l - 1).toNat false:=by
 unfold rQ
 rw[show max l (-l)=l by omega,decide_eq_true (show 0<l by omega)]
 cases w.getD (l - 1).toNat false<;>rfl
def R2 (gs:List iZ) (n:Nat) (G:List Int) (w:List Bool):Prop:=∀x∈G,w.getD (n+eW G x) false=Am gs (w.take n) x.toNat
theorem R2.lit {gs:List iZ} (hc:pg gs) {n:Nat} {G:List Int} {w:List Bool} (hw:n≤w.length) (hn:8≤n) {x:Int} (h:G7 gs G x) (hr:x / 2∈G→w.getD (n+eW G (x / 2)) false=Am gs (w.take n) (x / 2).toNat):rQ w (Ai gs n G x)=Ox gs (w.take n) x:=by
 have hv:=h.var hc (n:=n) (by omega)
 have key:rQ w (B8 gs n G (x / 2))=Am gs (w.take n) (x / 2).toNat:=by
  rw[Gz hv.1]
  by_cases hx:x / 2∈G
  ·rw[La hx,← hr hx]
   congr 1
   omega
  ·have h1:=h.lo
   have h2:=h.hi
   rcases hc.kind (i:=(x / 2).toNat) aJ aJ with h3|h3
   ·rw[Mx _ (show(x / 2).toNat<gs.length by omega) (by rw[← xg aJ];exact h3.1),XM,B8,if_neg hx,xg aJ]
    rw[xg aJ] at h3
    rw[c8,c8,List.getElem?_take,if_pos aJ]
   ·exact absurd (h.and h3) hx
 unfold Ai Ox
 by_cases h2:x % 2=1
 ·rw[if_pos h2,He aJ,key,decide_eq_false (show ¬x % 2=0 by omega)]
  cases Am gs (w.take n) (x / 2).toNat<;>rfl
 ·rw[if_neg h2,key,decide_eq_true (show x % 2=0 by omega)]
  cases Am gs (w.take n) (x / 2).toNat<;>rfl
end Go.Ab.N19
/- Chapter 19:the simplification,in plain terms. -/
namespace Go.Ab.N19
open Go Go.Proofs Go.Ab
set_option maxRecDepth 20000
set_option maxHeartbeats 4000000
def Om (sep:UInt8):List (List UInt8)→List UInt8
 |[]=>[]
 |[x]=>x
 |x::y::r=>x++sep::Om sep (y::r)
end Go.Ab.N19
/- A proof as text,in plain terms:what is written,and how it is cut into lines and words. -/
namespace Go.Ab
open Go Go.Proofs
abbrev Bt:=List UInt8
def ic (l:Bt):ByteArray:=⟨l.toArray⟩
def iY (w:Bt) (ws:List Bt):Bt:=w++ws.flatMap fun v=>32::v
def la (c:List Int):List Bt:=c.map Lib.itoa++ [[48]]
def gU (c:List Int):Bt:=iY [108] (la c)
def gf (P:List (List Int)):Bt:=P.flatMap fun c=>gU c++ [10]
theorem AH {c:UInt8}:∀{a r:Bt},(∀d∈a,d≠c)→Lib.indexByte (a++c::r) c=(a.length:Int)
 |[],r,_=>by simp [Lib.indexByte]
 |b::a,r,h=>by
  have hb:b≠c:=h b (by simp)
  have ih:=AH (a:=a) (r:=r) fun d hd=>h d (by simp [hd])
  show Lib.indexByte (b::(a++c::r)) c=_
  unfold Lib.indexByte
  rw[if_neg (by simpa using hb),ih,if_neg (by simp)]
  simp
theorem Bq {c:UInt8}:∀{a:Bt},(∀d∈a,d≠c)→Lib.indexByte a c= -1
 |[],_=>rfl
 |b::a,h=>by
  have hb:b≠c:=h b (by simp)
  unfold Lib.indexByte
  rw[if_neg (by simpa using hb),Bq fun d hd=>h d (by simp [hd])]
  simp
theorem wV (w v:Bt) (ws:List Bt):iY w (v::ws)=w++32::iY v ws:=by
 simp [iY]
theorem wZ {a:Bt} (h:∀d∈a,d≠32):a.count 32=0:=List.count_eq_zero.2 fun hm=>h 32 hm rfl
theorem uL:∀(ws:List Bt) (w:Bt),(∀d∈w,d≠32)→(∀v∈ws,∀d∈v,d≠32)→(iY w ws).count 32=ws.length
 |[],w,h,_=>by simp [iY,wZ h]
 |v::ws,w,h,h2=>by
  rw[wV,List.count_append,wZ h,List.count_cons_self,uL ws v (h2 v (by simp)) fun u hu=>h2 u (by simp [hu])]
  simp
theorem uI:∀(ws:List Bt) (w:Bt),(∀d∈w,d≠32)→(∀v∈ws,∀d∈v,d≠32)→Lib.splitK [32] 0 ws.length (iY w ws)=w::ws
 |[],w,_,_=>by simp [Lib.splitK,iY]
 |v::ws,w,h,h2=>by
  have hi:=AH (c:=32) (r:=iY v ws) h
  rw[dP,wV]
  unfold Lib.splitK
  rw[Lib.index_one,hi,if_neg (by simp)]
  have e1:(w++32::iY v ws).take (((w.length:Int)).toNat+0)=w:=by simp
  have e2:(w++32::iY v ws).drop (((w.length:Int)).toNat+ [(32:UInt8)].length)=iY v ws:=by simp
  rw[e1,e2,uI ws v (h2 v (by simp)) fun u hu=>h2 u (by simp [hu])]
theorem mk_inj {l m:Bt}:ic l=ic m↔l=m:=by
 constructor
 ·intro h
  have h1:(ic l).data.toList=(ic m).data.toList:=by rw[h]
  exact h1
 ·rintro rfl;rfl
theorem map_mk {l:List ByteArray} {m:List Bt} (h:l.map (·.data.toList)=m):l=m.map ic:=by
 subst h
 rw[cT]
 symm
 conv=>rhs;rw[← List.map_id l]
 apply dS
 intro s _
 cases s
 rfl
theorem zI (ws:List Bt) (w:Bt) (h:∀d∈w,d≠32) (h2:∀v∈ws,∀d∈v,d≠32):Lib.countB (ic (iY w ws)) (ic [32])=ws.length∧Lib.splitB (ic [32]) 0 ws.length (ic (iY w ws))=(w::ws).map ic:=by
 constructor
 ·show Lib.count (iY w ws) [32]=_
  rw[Lib.count_one,uL ws w h h2]
 ·apply map_mk
  rw[Lib.splitB_data]
  exact uI ws w h h2
theorem yL {x:Int} (h: -9≤x∧x≤9):(Lib.itoa x).length≤2∧Lib.atoi (Lib.itoa x)=some x∧(∀d∈Lib.itoa x,d≠32∧d≠10):=by
 have key:∀k:Nat,k<19→(Lib.itoa ((k:Int) - 9)).length≤2∧Lib.atoi (Lib.itoa ((k:Int) - 9))=some ((k:Int) - 9)∧(∀d∈Lib.itoa ((k:Int) - 9),d≠32∧d≠10):=by decide+kernel
 have:=key (x+9).toNat (by omega)
 rw[show((x+9).toNat:Int) - 9=x by omega] at this
 exact this
theorem Pu:Lib.itoa 0=[48]:=by decide+kernel
def HY (P:List (List Int)):Prop:=P.length≤20000∧∀c∈P,c.length≤1000∧∀x∈c,x≠0∧ -9≤x∧x≤9
theorem HY.drop {P:List (List Int)} (h:HY P) (k:Nat):HY (P.drop k):=⟨by have:=h.1;rw[List.length_drop];omega,fun c hc=>h.2 c (List.mem_of_mem_drop hc)⟩
theorem tM {c:List Int} (h:∀x∈c,-9≤x∧x≤9):∀v∈la c,v.length≤2∧∀d∈v,d≠32∧d≠10:=fun v hv=>by
 rcases bW.1 hv with hv|hv
 ·obtain⟨x,hx,rfl⟩:=bw.1 hv
  have:=yL (h x hx)
  exact⟨this.1,this.2.2⟩
 ·rw[cp] at hv
  subst hv
  exact⟨by simp,by decide⟩
theorem tu {c:List Int} (h:∀x∈c,-9≤x∧x≤9):∀d∈gU c,d≠10:=by
 intro d hd
 unfold gU iY at hd
 rcases bW.1 hd with hd|hd
 ·rw[cp] at hd;subst hd;decide
 ·obtain⟨v,hv,hd⟩:=List.mem_flatMap.1 hd
  rcases List.mem_cons.1 hd with rfl|hd
  ·decide
  ·exact((tM h v hv).2 d hd).2
theorem wG {m:Nat}:∀(ws:List Bt),(∀v∈ws,v.length≤m)→(ws.flatMap fun v=>32::v).length≤ws.length*(m+1)
 |[],_=>by simp
 |v::ws,h=>by
  have:=h v (by simp)
  have:=wG ws fun u hu=>h u (by simp [hu])
  rw[List.flatMap_cons,bV,dP,dP,Nat.succ_mul]
  omega
theorem xf {c:List Int} (h:∀x∈c,-9≤x∧x≤9):(gU c).length≤3*c.length+4:=by
 have:=wG (m:=2) (la c) fun v hv=>(tM h v hv).1
 unfold gU iY
 have e:(la c).length=c.length+1:=by simp [la]
 rw[bV,dC]
 omega
theorem tA (c:List Int) (P:List (List Int)):gf (c::P)=gU c++10::gf P:=by simp [gf]
theorem su {P:List (List Int)} (h:HY P):(gf P).length≤3010*P.length:=by
 obtain⟨h0,h⟩:=h
 clear h0
 induction P with
 |nil=>simp [gf]
 |cons c P ih=>
  have h1:=h c (by simp)
  have:=xf fun x hx=>(h1.2 x hx).2
  have:=ih fun d hd=>h d (by simp [hd])
  rw[tA,bV,dP,dP]
  omega
theorem pQ {P:List (List Int)}:gf P=[]↔P=[]:=by
 cases P with
 |nil=>simp [gf]
 |cons c P=>rw[tA];simp
theorem y3 (P:List (List Int)) (c:List Int):(gf (P++ [c])).dropLast=gf P++gU c:=by
 unfold gf
 rw[List.flatMap_append,List.flatMap_singleton,← dV,List.dropLast_concat]
end Go.Ab
/- Chapter 19:the reference's circuits,walked. -/
namespace Go.Ab.N19
open Go Go.Proofs Go.Ab
set_option maxRecDepth 20000
set_option maxHeartbeats 4000000
attribute [local irreducible] AW a_ ga ft AR fB fp fG fU
end Go.Ab.N19
/- slices' functions that take functions. -/
namespace Go.Ab.N19
open Go Go.Proofs Go.Ab
open Nat (reduceAdd reduceSub)
set_option maxRecDepth 20000
set_option maxHeartbeats 4000000
attribute [local irreducible] AW a_ ga ft AR fB fp fG fU
end Go.Ab.N19
/- Chapter 19:formulas:valid,satisfied. -/
namespace Go.Ab.N19
open Go Go.Proofs Go.Ab
set_option maxRecDepth 20000
set_option maxHeartbeats 4000000
attribute [local irreducible] AW a_ ga ft AR fB fp fG fU
abbrev H6 (vars:Int) (cl:List (List Int)):AV:=.agg [e7 vars,.pv (jm cl)]
def Qb (vars x:Int):Bool:=decide (x≠0∧x≤vars∧0 - vars≤x)
def e_ (vars:Int) (l:List Int):Bool:=l.all (Qb vars)
def oJ (vars:Int) (cl:List (List Int)):Bool:=decide (0≤vars∧vars≤20000∧(cl.length:Int)≤60000) && cl.all (e_ vars)
end Go.Ab.N19
/- Chapter 19:formulas:satisfied;the reference's comparisons. -/
namespace Go.Ab.N19
open Go Go.Proofs Go.Ab
set_option maxRecDepth 20000
set_option maxHeartbeats 4000000
attribute [local irreducible] AW a_ ga ft AR fB fp fG fU
end Go.Ab.N19
/- Chapter 19:the needed gates,walked:a closure that calls itself. -/
namespace Go.Ab.N19
open Go Go.Proofs Go.Ab
set_option maxRecDepth 20000
set_option maxHeartbeats 4000000
attribute [local irreducible] AW a_ ga ft AR fB fp fG fU jw
end Go.Ab.N19
/- Chapter 19:the needed gates,in order. -/
namespace Go.Ab.N19
open Go Go.Proofs Go.Ab
set_option maxRecDepth 20000
set_option maxHeartbeats 4000000
attribute [local irreducible] AW a_ ga ft AR fB fp fG fU jw canon l4
end Go.Ab.N19
/- Chapter 19:the formula of a reference,walked. -/
namespace Go.Ab.N19
open Go Go.Proofs Go.RowKit Go.Ab
set_option maxRecDepth 20000
set_option maxHeartbeats 4000000
attribute [local irreducible] AW a_ ga ft AR fB fp fG fU canon eW
end Go.Ab.N19
/- Chapter 19:a reference's value,walked:the reference's Eval and the program's. -/
namespace Go.Ab.N19
open Go Go.Proofs Go.Ab
set_option maxRecDepth 20000
set_option maxHeartbeats 4000000
attribute [local irreducible] AW a_ ga ft AR fB fp fG fU
theorem pg.cases {gs:List iZ} (hc:pg gs) {i:Nat} (h:i<gs.length):(gs[i].k=0)∨(gs[i].k=1∧1≤gs[i].a∧gs[i].a≤8)∨(gs[i].k=2∧2≤gs[i].a∧gs[i].a<gs[i].b∧gs[i].b<2*(i:Int)):=by
 by_cases h0:i=0
 ·subst h0
  have:=hc.zero
  rw[a8 h] at this
  rw[Option.some.inj this]
  exact .inl rfl
 ·rcases hc.ok i h h0 with h1|h1
  ·exact .inr (.inl ⟨h1.1,h1.2.1,h1.2.2.1⟩)
  ·exact .inr (.inr ⟨h1.1,h1.2.1,h1.2.2.1,h1.2.2.2.1⟩)
end Go.Ab.N19
/- Chapter 19:the formula of a reference,walked. -/
namespace Go.Ab.N19
open Go Go.Proofs Go.RowKit Go.Ab
set_option maxRecDepth 20000
set_option maxHeartbeats 4000000
attribute [local irreducible] AW a_ ga ft AR fB fp fG fU canon eW Ai JW
end Go.Ab.N19
/- Chapter 19:the extension of an assignment,walked. -/
namespace Go.Ab.N19
open Go Go.Proofs Go.RowKit Go.Ab
set_option maxRecDepth 20000
set_option maxHeartbeats 4000000
attribute [local irreducible] AW a_ ga ft AR fB fp fG fU canon eW Ai JW
end Go.Ab.N19
