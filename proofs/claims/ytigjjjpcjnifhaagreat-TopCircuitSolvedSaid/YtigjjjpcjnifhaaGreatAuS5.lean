/- The solver: propagation, walked. -/
import Derived.Test.YtigjjjpcjnifhaaGreatAuS7
import Derived.Test.YtigjjjpcjnifhaaGreatAbZ
import Derived.Test.YtigjjjpcjnifhaaGreatAbL3
set_option linter.unusedSimpArgs false
set_option linter.unusedVariables false
open Nat renaming reduceBEq→df,le_refl→aP
open List renaming getElem_mem→cY,length_set→cM,getElem_inj→dr,getElem_of_mem→da,length→dV,length_nil→bV,length_append→bW,length_take→cO,length_drop→cV
open Int renaming toNat_natCast→dq
namespace Go.Ab
open Go Go.Proofs
open Nat (reduceAdd reduceSub)
set_option maxRecDepth 20000
set_option maxHeartbeats 8000000
theorem lG {n:Nat} {s:SR} (v:s.value=lX n (s.ll 0)) (ht:kd n (s.ll 0)) (hn:n≤20000) {x:Int} (hx:Lit n x) {r:Int} (hr:r=if x∈s.ll 0 then 1 else if -x∈s.ll 0 then -1 else 0):oP Tryz.prog 55 11 (ie s) [.ptr 0 0,eU x] (ie s) (eU r):=by
 have hl:s.value.length=n+1:=by rw[v,kE]
 have:=PB s x (by obtain⟨_,_,_⟩:=hx;omega) (by obtain⟨_,_,_⟩:=hx;omega) (by rw[v];exact Dm)
 rw[v,Lt hx ht,← hr] at this
 exact this
theorem S0 {c:List Int} (h:2≤c.length):c0 ((c.set 0 c[1]).set 1 c[0])=c1 c∧c1 ((c.set 0 c[1]).set 1 c[0])=c0 c:=by
 match c,h with
 |a::b::r,_=>exact⟨rfl,rfl⟩
theorem J_ {c:List Int} {k:Nat} (h:2≤k) (hk:k<c.length):c0 ((c.set 1 c[k]).set k (c[1]'(by omega)))=c0 c∧c1 ((c.set 1 c[k]).set k (c[1]'(by omega)))=c[k]:=by
 match c,k,h,hk with
 |a::b::r,k+2,_,hk=>exact⟨rfl,by simp [c1]⟩
 |[a],k+2,_,hk=>simp at hk
attribute [local irreducible] gG AW a_ gr fz AR fH fv fM gk lk me eX
theorem Cf (n:Nat) (s:SR) (hs:fY n s) (P9:s.marks.length≤1000000):vo Tryz.prog 59 11 (ie s) [.ptr 0 0] (fun q:SR×Int=>Ls n s q.1 q.2) (fun q=>ie q.1) (fun q=>eU q.2):=by
 have e1:∀h,(gG s.nw h).length=s.nw:=lZ s.nw
 simp only[ie,ij]
 refine vo.enter (n:=190) Tryz.func59 rfl rfl rfl rfl rfl (by decide) rfl (fun _=>rfl) fun g fp fl=>?_;refine s9 ?_
 (refine zq ?_;refine kc ?_;refine AW.block ?_)
 (refine Q0 ?_;apply AW.gJ [0,1000] [1,2,3,5,6,8,10] (fun σ:SR=>([]:List (Nat×AV))) (fun σ:SR=>([(0,some (.box [.own 1 3 1 ((σ.value).map encI),.own 2 3 1 ((σ.level).map encI),.own 3 3 1 ((σ.reason).map encI),.pv (.lit (σ.hl 0)),.own 5 3 1 ((σ.marks).map encI),eU (σ.low),.own 6 25 1 (gG σ.nc σ.hc),.own 8 25 1 (gG σ.nw σ.hw),eU (σ.head),eU (σ.added),fq (σ.broken),.own 10 44 3 ((σ.proof).map qv),eU 0,.pv (ke (σ.model)),.pv (ke (σ.core))])),(4,some (.fb 3 (kK σ.hl σ.ll))),(7,some (.fb 3 (kK σ.hc σ.cl))),(9,some (.fb 3 (kK σ.hw σ.wl)))]:List (Nat×Option Ob))) (fun σ:SR=>(fY n σ∧vd s σ)) (fun σ:SR=>n - σ.head.toNat) (s);(conv=>lhs;simp only[Nf.ot,Nf.all,df,reduceAdd,reduceSub]);(all_goals skip))
 ·exact⟨hs,.refl s⟩
 ·exact fe rfl (by(refine aC ?_;refine aC ?_;exact trivial)) (by(refine⟨.box _ rfl ?_,?_⟩;(iterate 3 refine aE ?_);refine aD ?_;refine aE ?_;refine aD ?_;(iterate 2 refine aE ?_);(iterate 3 refine aD ?_);refine aE ?_;refine aD ?_;(iterate 2 refine aG ?_);exact trivial;(iterate 3 refine aH ?_);(iterate 7 refine aF ?_);exact trivial)) rfl
 rintro σ ⟨hi,hx⟩
 have MW:=hi.hd
 have sA:=hi.hn
 have kY:=hi.iU.len
 have BP:=hi.nw
 have A_:=hi.nc
 by_cases fy:σ.head.toNat<(σ.ll 0).length
 ·obtain⟨g,hg⟩:∃g,g= -(σ.ll 0)[σ.head.toNat]:=⟨_,rfl⟩
  have Xf:=hi.iU.zK _ (cY fy)
  have Cu:Lit n g:=by rw[hg];exact⟨by omega,by omega,by omega⟩
  have hgb: -1000000≤g∧g≤1000000:=by obtain⟨_,_,_⟩:=Cu;omega
  have Zu:0≤eX g∧(eX g).toNat<σ.nw:=by have:=gT Cu;omega
  have hP0:=wo.start (g:=g) hi hx (by rw[hg,Int.neg_neg];exact List.getElem?_eq_getElem fy)
  have Cs:=hi.IF Cu
  rw[hg] at hgb Zu Cs
  have F6:=xt _ hgb
  ((iterate 2 refine zo ?_);(with_reducible apply AW.gb);exact rfl;exact rfl;kernel_rfl;(with_reducible assumption);refine pJ ?_;refine MI ?_;refine wx ?_;refine Gq ?_;refine zs ?_;refine zd ?_;refine Q6 ?_;refine zo ?_;(with_reducible apply AW.gb);exact rfl;exact rfl;kernel_rfl;(with_reducible assumption);refine wx ?_;refine Fc ?_;refine pJ ?_;refine MI ?_;(with_reducible apply a_.e9 4);(iterate 8 exact rfl);exact ab;exact ab;refine aw ?_;refine a_.neg rfl rfl rfl aJ ?_;refine kc ?_;(with_reducible apply AW.gb);exact rfl;exact rfl;kernel_rfl;(with_reducible assumption);refine Aa ?_;refine iY ?_;refine zA (F6) ?_;refine TG ?_;refine a_.jP rfl rfl rfl rfl (fun h_=>by cases h_) aJ ?_;refine qJ ?_;refine zm ?_;(with_reducible apply a_.uR 9);(iterate 8 exact rfl);exact ab;exact ab;refine vt ?_;refine zm ?_;refine a_.pR 9 rfl rfl rfl rfl rfl ?_;refine zp ?_)
  rw[← hg] at*
  (refine Q0 ?_;apply AW.gJ [51,3,0,1000] [1,2,3,5,6,8,10] (fun q:SR×Nat×Nat=>([(4,.pv (.lit (q.1.hw (eX g).toNat))),(5,.pv (.lit (jw q.2.1 (q.1.hw (eX g).toNat)))),(50,.pv (.lit (q.1.hw (eX g).toNat))),(52,eU q.2.2)]:List (Nat×AV))) (fun q:SR×Nat×Nat=>([(0,some (.box [.own 1 3 1 ((q.1.value).map encI),.own 2 3 1 ((q.1.level).map encI),.own 3 3 1 ((q.1.reason).map encI),.pv (.lit (q.1.hl 0)),.own 5 3 1 ((q.1.marks).map encI),eU (q.1.low),.own 6 25 1 (gG q.1.nc q.1.hc),.own 8 25 1 (gG q.1.nw q.1.hw),eU (q.1.head),eU (q.1.added),fq (q.1.broken),.own 10 44 3 ((q.1.proof).map qv),eU 0,.pv (ke (q.1.model)),.pv (ke (q.1.core))])),(4,some (.fb 3 (kK q.1.hl q.1.ll))),(7,some (.fb 3 (kK q.1.hc q.1.cl))),(9,some (.fb 3 (kK q.1.hw q.1.wl)))]:List (Nat×Option Ob))) (fun q:SR×Nat×Nat=>wo n s σ.head (σ.wl (eX g).toNat).length g q.1 q.2.1 q.2.2) (fun q:SR×Nat×Nat=>(σ.wl (eX g).toNat).length - q.2.2) ((σ,0,0));(conv=>lhs;simp only[Nf.ot,Nf.all,df,reduceAdd,reduceSub]);(all_goals skip))
  ·exact hP0
  ·exact fe rfl (by(refine aD ?_;(iterate 5 refine aD ?_);(iterate 2 refine aC ?_);exact trivial)) (by(refine⟨.box _ rfl ?_,?_⟩;(iterate 3 refine aE ?_);refine aD ?_;refine aE ?_;refine aD ?_;(iterate 2 refine aE ?_);(iterate 3 refine aD ?_);refine aE ?_;refine aD ?_;(iterate 2 refine aG ?_);exact trivial;(iterate 3 refine aH ?_);(iterate 7 refine aF ?_);exact trivial)) rfl
  rintro⟨τ,m,i⟩ hP
  simp only at hP
  refine AW.Cc 9 rfl fun YD X1=>?_
  have hbn:=hP.bnd
  have TF:=hP.mi
  have hiN:=hP.iN
  have IE:=hP.len
  have ZN:=hP.hd
  by_cases Gr:i<(σ.wl (eX g).toNat).length
  ·obtain⟨j,hj,v7,TC,JK,h2,iX,jg,lY⟩:=hP.clause Gr
   obtain⟨qU,hR⟩:=List.getElem?_eq_some_iff.1 v7
   have hR0:(τ.wl (eX g).toNat)[(i:Int).toNat]'(by simpa using qU)=(j:Int):=by simpa using hR
   have hz:(0:Int).toNat<(τ.cl j).length:=show 0<_ by omega
   by_cases hsw:(τ.cl j)[(0:Int).toNat]=g
   ·have Bu:(1:Int).toNat<(τ.cl j).length:=show 1<_ by omega
    have hS1:(1:Int).toNat<(e_ τ.cl j ((τ.cl j).set (0:Int).toNat (τ.cl j)[(1:Int).toNat]) j).length:=by rw[e7,cM];exact Bu
    (refine ru ?_;refine zm ?_;(with_reducible apply a_.e9 9);(iterate 8 exact rfl);exact ab;exact ab;(focus ((with_reducible apply a_.tT 9);(iterate 5 exact rfl);exact ar;rotate_left;exact ab));refine uf ?_;refine kJ ?_;refine Mt ?_;refine iY ?_;refine TG ?_;refine a_.jP rfl rfl rfl rfl (fun h_=>by cases h_) aJ ?_;refine kc ?_;(with_reducible apply AW.xe 10);(rw[hR0]);(rw[dq j]);refine qw ?_;(with_reducible apply a_.e9 7);(iterate 8 exact rfl);exact ab;exact ab;refine ax ?_;refine qI ?_;refine jD ?_;refine AW.gg [0,2,3,5,6] [9] rfl (by assumption) aI aI rfl ?_;show a_ .held _ _ _ [_,_,_,_,_] _ _;(iterate 2 refine zm ?_);(with_reducible apply a_.e9 7);(iterate 8 exact rfl);exact ab;exact ab;refine zm ?_;(with_reducible apply a_.e9 7);(iterate 8 exact rfl);exact ab;exact ab;refine Q3 ?_;intro k_ iE;refine Q0 ?_;(refine AR.free 1 aI rfl rfl rfl (by first|exact fS.fN rfl rfl|exact fS.iD rfl rfl|exact fS.nilCheck rfl rfl) ?_);apply AR.cut [1,6,5,3,2,0,4,7];intro kv;(refine AR.gh (i:=4) (j:=7) rfl aI rfl rfl ?_ ?_<;>intro g_ b_ fU);refine ax ?_;refine Q3 ?_;refine AR.fA (i:=7) rfl aI rfl ?_;intro g_ b_ fU;refine ax ?_;refine Q3 ?_;refine aB ?_;exact pE;refine ax ?_;refine Q3 ?_;refine AR.fA (i:=4) rfl aI rfl ?_;intro g_ b_ fU;refine ax ?_;refine Q3 ?_;refine aB ?_;refine Qy ?_;refine⟨.box _ rfl ?_,?_⟩;exact Jt;(iterate 3 refine⟨.fb rfl rfl,?_⟩);(iterate 7 refine aF ?_);exact trivial;refine AR.iP [8] aI aI aI aI ?_;intro g_ b_;show a_ .held _ _ _ [_] _ _;(with_reducible apply a_.e9 7);(iterate 8 exact rfl);exact ab;exact ab;refine Q3 ?_;intro k_ iE;refine Q0 ?_;refine wL ?_;intro g_ b_ eT;(with_reducible apply a_.lN 7);(iterate 7 exact rfl);exact ab;refine oy ?_;refine yx ?_;intro g_ b_ eT;(with_reducible apply a_.e9 7);(iterate 8 exact rfl);exact ab;exact ab;refine Q3 ?_;refine uo ?_;intro g_ b_ eT;(with_reducible apply a_.lN 7);(iterate 7 exact rfl);exact ab;refine s5 ?_;refine zo ?_;refine AW.mS 12 ?_)
    obtain⟨CL,Xv⟩:∃CL,CL=e_ τ.cl j (((τ.cl j).set (0:Int).toNat ((τ.cl j)[(1:Int).toNat]'(show 1<_ by omega))).set (1:Int).toNat ((τ.cl j)[(0:Int).toNat]'(show 0<_ by omega))):=⟨_,rfl⟩
    obtain⟨w1,w2⟩:=S0 h2
    have hQ:wo n s σ.head (σ.wl (eX g).toNat).length g {τ with cl:=CL} m i:=by
     rw[Xv]
     exact hP.swap hj JK (pK (i:=0) (k:=1) aJ aJ) w1 w2
    have j9:c1 (CL j)=g:=by
     rw[Xv,e7]
     exact w2.trans ((fJ hz).trans hsw)
    (conv=>rhs;rw[jQ,e7,← Xv])
    refine Stop.go ?_
    obtain⟨jF,Te,NU⟩:=hQ.inv.cls j hj
    have jF:2≤(CL j).length:=jF
    have Te:(CL j).Nodup:=Te
    have NU:∀x∈CL j,Lit n x:=NU
    have hq3:(CL j).length≤2*n+2:=hQ.inv.FT hj
    have IH:=hQ.gl.2
    have ld:τ.value=lX n (τ.ll 0):=hQ.inv.val
    have tC:kd n (τ.ll 0):=hQ.inv.iU
    have L2:(0:Int).toNat<(CL j).length:=show 0<_ by omega
    have Kn:(1:Int).toNat<(CL j).length:=show 1<_ by omega
    have oH:(CL j)[(0:Int).toNat]=c0 (CL j):=(fJ L2).symm
    have Bu:(CL j)[(1:Int).toNat]=c1 (CL j):=(fJ Kn).symm
    have xb:=NU _ (cY L2)
    by_cases IZ:(CL j)[(0:Int).toNat]∈τ.ll 0
    ·have w6:=lG (s:={τ with cl:=CL}) (r:=1) ld tC sA xb (if_pos IZ).symm
     simp only[ie,ij] at w6
     (refine zo ?_;refine EL ?_;show a_ .held _ _ _ [_,_,_,_,_] _ _;refine tN ?_;(with_reducible apply a_.e9 7);(iterate 8 exact rfl);exact ab;exact ab;refine Q3 ?_;intro k_ iE;refine s8 ?_;intro g_ b_ fU;refine ax ?_;refine xr ?_;intro g_ b_ eT;refine Fj ?_;refine wy ?_;intro g_ b_ eT;refine a_.gtr rfl rfl rfl rfl rfl ?_;refine Q3 ?_;refine I0 ?_;refine kJ ?_;(iterate 2 refine zm ?_);(with_reducible apply a_.oE);(iterate 5 exact rfl);exact ag;exact rfl;exact rfl;refine Q0 ?_;(with_reducible apply a_.jO 9);exact rfl;exact rfl;exact ah;(iterate 6 exact rfl);exact ab;refine Q0 ?_;refine lK ?_;refine Jy ?_;refine td ?_)
     refine⟨({τ with cl:=CL,wl:=e_ τ.wl (eX g).toNat ((τ.wl (eX g).toNat).set m (j:Int))},m+1,i+1),hQ.keep hj v7 j9 (by rw[← oH];exact IZ),by show _ - (i+1)<_ - i;omega,fe rfl (by(refine E7 ?_;(iterate 5 refine aD ?_);exact Fq)) (by(exact Uf)) rfl⟩
    ·obtain⟨r0,xp⟩:∃r:Int,r=if -(CL j)[(0:Int).toNat]∈τ.ll 0 then -1 else 0:=⟨_,rfl⟩
     have YG: -1≤r0∧r0≤0:=by rw[xp];split<;>omega
     have w6:=lG (s:={τ with cl:=CL}) (r:=r0) ld tC sA xb (by rw[if_neg IZ];exact xp)
     simp only[ie,ij] at w6
     (refine zo ?_;refine EL ?_;show a_ .held _ _ _ [_,_,_,_,_] _ _;refine tN ?_;(with_reducible apply a_.e9 7);(iterate 8 exact rfl);exact ab;exact ab;refine Q3 ?_;intro k_ iE;refine s8 ?_;intro g_ b_ fU;refine ax ?_;refine xr ?_;intro g_ b_ eT;refine Fj ?_;refine wy ?_;intro g_ b_ eT;refine a_.gtr rfl rfl rfl rfl rfl ?_;refine Q3 ?_;refine Cq ?_;refine zk ?_;refine vH ?_;refine kJ ?_;refine kc ?_;refine AW.block ?_)
     (refine Q0 ?_;apply AW.gJ [8,7,6,4,5,50,52,51,3,0,1000] [0,1,2,3,4,5,6,7,8,9,10] (fun k:Nat=>([(9,eU k)]:List (Nat×AV))) (fun k:Nat=>([]:List (Nat×Option Ob))) (fun k:Nat=>(2≤k∧k≤(CL j).length∧∀p (hp:p<(CL j).length),2≤p→p<k→ -(CL j)[p]∈τ.ll 0)) (fun k:Nat=>(CL j).length - k) (2);(conv=>lhs;simp only[Nf.ot,Nf.all,df,reduceAdd,reduceSub]);(all_goals skip))
     ·exact⟨aP _,jF,fun p _ h1 h2=>by omega⟩
     ·exact Q67
     rintro k ⟨qh,MX,Uk⟩
     by_cases hk:k<(CL j).length
     ·have Vb:(k:Int).toNat<(CL j).length:=by omega
      have Et:=NU _ (cY Vb)
      by_cases BA: -(CL j)[(k:Int).toNat]∈τ.ll 0
      ·have DX:=lG (s:={τ with cl:=CL}) (r:= -1) ld tC sA Et (by rw[if_neg fun hh=>tC.oY hh BA,if_pos BA])
       simp only[ie,ij] at DX
       (refine Dq ?_;show a_ .held _ _ _ [_,_,_,_,_,_,_,_,_,_,_] _ _;refine NW ?_;(with_reducible apply a_.e9 7);(iterate 8 exact rfl);exact ab;exact ab;refine Q3 ?_;intro k_ iE;refine B5 ?_;intro g_ b_ fU;refine zt ?_;refine ax ?_;refine Q3 ?_;refine AM ?_;intro g_ b_ eT;refine NI ?_;intro g_ b_ eT;refine zt ?_;refine zs ?_;refine Q3 ?_;refine wH ?_;intro g_ b_ eT;refine V5 ?_)
       exact⟨k+1,⟨by omega,by omega,fun p hp h1 h2=>by
        by_cases e:p=k
        ·subst e;exact BA
        ·exact Uk p hp h1 aJ⟩,by omega,fe rfl (by(refine aD ?_;(iterate 9 refine aD ?_);(iterate 2 refine aC ?_);exact trivial)) (by(refine⟨.box _ rfl ?_,?_⟩;(iterate 3 refine aE ?_);refine aD ?_;refine aE ?_;refine aD ?_;(iterate 2 refine aE ?_);(iterate 3 refine aD ?_);refine aE ?_;refine aD ?_;(iterate 2 refine aG ?_);exact trivial;(iterate 3 refine aF ?_);refine aH ?_;(iterate 2 refine aF ?_);refine aH ?_;refine aF ?_;refine aH ?_;refine aF ?_;exact trivial)) rfl⟩
      ·obtain⟨rk,UR⟩:∃r:Int,r=if (CL j)[(k:Int).toNat]∈τ.ll 0 then 1 else if -(CL j)[(k:Int).toNat]∈τ.ll 0 then -1 else 0:=⟨_,rfl⟩
       have Zq:0≤rk∧rk≤1:=by rw[UR,if_neg BA];split<;>omega
       have DX:=lG (s:={τ with cl:=CL}) (r:=rk) ld tC sA Et UR
       simp only[ie,ij] at DX
       obtain⟨D,hD⟩:∃D,D=((CL j).set (1:Int).toNat (CL j)[(k:Int).toNat]).set (k:Int).toNat (CL j)[(1:Int).toNat]:=⟨_,rfl⟩
       have hS2:(k:Int).toNat<(e_ CL j ((CL j).set (1:Int).toNat (CL j)[(k:Int).toNat]) j).length:=by rw[e7,cM];exact Vb
       obtain⟨d0,d1⟩:=J_ qh hk
       have PR:D=((CL j).set 1 (CL j)[k]).set k ((CL j)[1]'(by omega)):=hD
       have GQ:mb (CL j) D:=by rw[PR];exact pK (i:=1) (k:=k) aJ hk
       rw[← PR] at d0 d1
       have SQ:(1:Int).toNat<(e_ CL j D j).length:=by rw[e7,GQ.len];exact Kn
       obtain⟨y,hy⟩:∃y,y=(e_ CL j D j)[(1:Int).toNat]:=⟨_,rfl⟩
       have K7:y=(CL j)[k]:=by
        rw[hy,← d1]
        have:∀(L:List Int) (hL:(1:Int).toNat<L.length),L=D→L[(1:Int).toNat]=c1 D:=fun L hL e=>by subst e;exact(fJ hL).symm
        exact this _ SQ (e7 _ _ _)
       have y8:Lit n y:=by rw[K7];exact Et
       have JC:y≠g:=fun e=>BA (by rw[show(CL j)[(k:Int).toNat]=y from K7.symm,e];exact IH)
       have Qc: -1000000≤y∧y≤1000000:=by obtain⟨_,_,_⟩:=y8;omega
       have ET:0≤eX y∧(eX y).toNat<τ.nw:=by have:=gT y8;omega
       have gn:(eX g).toNat≠(eX y).toNat:=fun q=>JC (iw y8 Cu q.symm)
       have QM:(τ.wl (eX y).toNat).length≤τ.nc:=by
        have:=hQ.inv.IF y8
        simp only[fC _ _ (Ne.symm gn)] at this
        exact this
       have hM:=hQ.move (y:=y) hj v7 JK j9 GQ d0 (d1.trans K7.symm) JC (fun e=>by
        rw[K7,show c0 (CL j)=(CL j)[0] from fJ aJ] at e
        have:=(dr Te (h₀:=hk) (h₁:=by omega)).1 e
        omega) (by rw[K7];exact BA)
       rw[hy] at Qc ET QM
       have Vt:=xt _ Qc
       (refine Dq ?_;show a_ .held _ _ _ [_,_,_,_,_,_,_,_,_,_,_] _ _;refine NW ?_;(with_reducible apply a_.e9 7);(iterate 8 exact rfl);exact ab;exact ab;refine Q3 ?_;intro k_ iE;refine B5 ?_;intro g_ b_ fU;refine zt ?_;refine ax ?_;refine Q3 ?_;refine AM ?_;intro g_ b_ eT;refine NI ?_;intro g_ b_ eT;refine zt ?_;refine zs ?_;refine Q3 ?_;refine wH ?_;intro g_ b_ eT;refine zT ?_;refine Q3 ?_;refine Cq ?_;refine tW ?_;refine zo ?_;refine kJ ?_;refine Db ?_;refine jD ?_;refine zo ?_;(with_reducible apply AW.PK 18 30 [0,3,4,5,7,8,9,50,51,52,1000]);exact rfl;refine Uh ?_;show a_ .held _ _ _ [_,_,_,_,_,_] _ _;(iterate 3 refine zm ?_);(with_reducible apply a_.e9 7);(iterate 8 exact rfl);exact ab;exact ab;refine zm ?_;(with_reducible apply a_.e9 7);(iterate 8 exact rfl);exact ab;exact ab;refine Q3 ?_;intro k_ iE;refine Q0 ?_;(refine AR.free 1 aI rfl rfl rfl (by first|exact fS.fN rfl rfl|exact fS.iD rfl rfl|exact fS.nilCheck rfl rfl) ?_);(refine AR.free 2 aI rfl rfl rfl (by first|exact fS.fN rfl rfl|exact fS.iD rfl rfl|exact fS.nilCheck rfl rfl) ?_);apply AR.cut [2,1,8,7,5,4,3,0,6,9];intro kv;(refine AR.gh (i:=6) (j:=9) rfl aI rfl rfl ?_ ?_<;>intro g_ b_ fU);refine ax ?_;refine Pe ?_;intro g_ b_ fU;refine ax ?_;refine Q3 ?_;refine aB ?_;exact pE;refine ax ?_;refine JV ?_;intro g_ b_ fU;refine ax ?_;refine Q3 ?_;refine aB ?_;refine Iv ?_;refine R3 ?_;exact trivial;refine AR.iP [10] aI aI aI aI ?_;intro g_ b_;show a_ .held _ _ _ [_] _ _;(with_reducible apply a_.e9 7);(iterate 8 exact rfl);exact ab;exact ab;refine Q3 ?_;intro k_ iE;refine Q0 ?_;refine uo ?_;intro g_ b_ eT;(with_reducible apply a_.lN 7);(iterate 7 exact rfl);exact ab;refine oy ?_;refine AM ?_;intro g_ b_ eT;(with_reducible apply a_.e9 7);(iterate 8 exact rfl);exact ab;exact ab;refine Q3 ?_;refine wE ?_;intro g_ b_ eT;(with_reducible apply a_.lN 7);(iterate 7 exact rfl);exact ab;refine s5 ?_;(with_reducible apply AW.xe 19);(rw[jQ]);(rw[e7]);(rw[← hD]);refine zo ?_;refine AW.gg [0,1,2,3,4,5,8,9,10,11,12,13,18] [22] rfl (by assumption) aI aI rfl ?_;show a_ .held _ _ _ [_,_,_,_,_,_,_,_,_,_,_,_,_] _ _;refine Aa ?_;refine iY ?_;(with_reducible apply a_.e9 7);(iterate 8 exact rfl);exact ab;exact ab;refine Aa ?_;refine iY ?_;(with_reducible apply a_.e9 7);(iterate 8 exact rfl);exact ab;exact ab;refine zm ?_;refine Q3 ?_;intro k_ iE;refine Q0 ?_;apply AR.cut [18,13,12,11,10,9,8,5,4,3,2,1,0,6,7,14,15,16,17,19];intro kv;apply AR.cut [18,13,12,11,10,9,8,5,4,3,2,1,0,6,7,14,15,16,19];intro ly;apply AR.cut [18,13,12,11,10,9,8,5,4,3,2,1,0,6,7,14,15,19];intro lu;apply AR.cut [18,13,12,11,10,9,8,5,4,3,2,1,0,6,7,14,19];intro lF;apply AR.cut [18,13,12,11,10,9,8,5,4,3,2,1,0,6,7,14];intro ni;apply AR.cut [18,13,12,11,10,9,8,5,4,3,2,1,0,6,7,19];intro mP;apply AR.cut [18,13,12,11,10,9,8,5,4,3,2,1,0,6,14,19];intro vg;apply AR.cut [18,13,12,11,10,9,8,5,4,3,2,1,0,6,19];intro DV;apply AR.cut [18,13,12,11,10,9,8,5,4,3,2,1,0,14,19];intro Kc;apply AR.cut [18,13,12,11,10,9,8,5,4,3,2,1,0,6,14];intro J9;(refine AR.pS (i:=6) (j:=14) (m:=19) rfl aI rfl rfl rfl ?_ ?_ ?_<;>intro g_ b_ fU);refine ax ?_;refine Q3 ?_;(refine AR.pS (i:=7) (j:=14) (m:=19) rfl aI rfl rfl rfl ?_ ?_ ?_<;>intro g_ b_ fU);refine wM ?_;(refine AR.gh (i:=14) (j:=19) rfl aI rfl rfl ?_ ?_<;>intro g_ b_ fU);refine ax ?_;refine Q3 ?_;refine aB ?_;refine Q5 ?_;exact AR.perm aI ni;(with_reducible apply a_.oE);(iterate 5 exact rfl);exact ag;exact rfl;exact rfl;refine oy ?_;refine aB ?_;refine Q5 ?_;exact AR.perm aI mP;refine ax ?_;refine Q3 ?_;refine aB ?_;refine Q5 ?_;exact AR.perm aI J9;(with_reducible apply a_.oE);(iterate 5 exact rfl);exact ag;exact rfl;exact rfl;refine oy ?_;refine aB ?_;refine Q5 ?_;exact AR.perm aI DV;refine ax ?_;refine Q3 ?_;(refine AR.gh (i:=6) (j:=19) rfl aI rfl rfl ?_ ?_<;>intro g_ b_ fU);refine ax ?_;refine Q3 ?_;refine aB ?_;refine AR.meet J9 aI (fun g_=>fe rfl ?_ ?_ rfl);exact HV;refine Ix ?_;exact trivial;(with_reducible apply a_.oE);(iterate 5 exact rfl);exact ag;exact rfl;exact rfl;refine oy ?_;refine aB ?_;refine Q5 ?_;exact AR.perm aI Kc;(with_reducible apply a_.oE);(iterate 5 exact rfl);exact ag;exact rfl;exact rfl;refine oy ?_;(refine AR.gh (i:=6) (j:=14) rfl aI rfl rfl ?_ ?_<;>intro g_ b_ fU);refine ax ?_;refine Q3 ?_;refine aB ?_;refine AR.meet DV aI (fun g_=>fe rfl ?_ ?_ rfl);exact HV;exact DN;refine ax ?_;refine Q3 ?_;refine aB ?_;refine AR.meet Kc aI (fun g_=>fe rfl ?_ ?_ rfl);exact HV;exact DN;(refine AR.gh (i:=7) (j:=19) rfl aI rfl rfl ?_ ?_<;>intro g_ b_ fU);refine wM ?_;refine aB ?_;refine AR.meet ni aI (fun g_=>fe rfl ?_ ?_ rfl);(iterate 39 refine aC ?_);exact trivial;refine Ix ?_;exact trivial;(with_reducible apply a_.oE);(iterate 5 exact rfl);exact ag;exact rfl;exact rfl;refine oy ?_;refine aB ?_;refine Q5 ?_;exact AR.perm aI vg;refine AR.fA (i:=6) rfl aI rfl ?_;intro g_ b_ fU;refine ax ?_;refine Q3 ?_;refine aB ?_;exact N8;(refine AR.gh (i:=7) (j:=14) rfl aI rfl rfl ?_ ?_<;>intro g_ b_ fU);refine wM ?_;refine aB ?_;refine AR.meet mP aI (fun g_=>fe rfl ?_ ?_ rfl);(iterate 39 refine aC ?_);exact trivial;exact DN;refine ax ?_;refine Q3 ?_;refine aB ?_;exact N8;refine AR.fA (i:=7) rfl aI rfl ?_;intro g_ b_ fU;refine wM ?_;refine aB ?_;exact Jh;refine AR.fA (i:=14) rfl aI rfl ?_;intro g_ b_ fU;refine ax ?_;refine Q3 ?_;refine aB ?_;exact Nb;(refine AR.gh (i:=15) (j:=19) rfl aI rfl rfl ?_ ?_<;>intro g_ b_ fU);refine wM ?_;(refine AR.gh (i:=16) (j:=19) rfl aI rfl rfl ?_ ?_<;>intro g_ b_ fU);refine w7 ?_;(refine AR.gh (i:=17) (j:=19) rfl aI rfl rfl ?_ ?_<;>intro g_ b_ fU);refine a_.jP rfl rfl rfl rfl (fun h_=>by cases h_) aJ ?_;refine Q3 ?_;refine AR.fA (i:=19) rfl aI rfl ?_;intro g_ b_ fU;(with_reducible apply a_.oE);(iterate 5 exact rfl);exact ag;exact rfl;exact rfl;refine oy ?_;refine aB ?_;exact pE;(with_reducible apply a_.oE);(iterate 5 exact rfl);exact ag;exact rfl;exact rfl;refine oy ?_;refine aB ?_;exact ss;(with_reducible apply a_.oE);(iterate 5 exact rfl);exact ag;exact rfl;exact rfl;refine oy ?_;refine aB ?_;exact BV;(with_reducible apply a_.oE);(iterate 5 exact rfl);exact ag;exact rfl;exact rfl;refine oy ?_;refine aB ?_;exact Nb;refine AR.fA (i:=15) rfl aI rfl ?_;intro g_ b_ fU;refine wM ?_;refine aB ?_;refine AR.meet lu aI (fun g_=>fe rfl ?_ ?_ rfl);(iterate 41 refine aC ?_);exact trivial;exact DN;refine AR.fA (i:=16) rfl aI rfl ?_;intro g_ b_ fU;refine w7 ?_;refine aB ?_;refine AR.meet ly aI (fun g_=>fe rfl ?_ ?_ rfl);(iterate 42 refine aC ?_);exact trivial;exact DN;refine AR.fA (i:=17) rfl aI rfl ?_;intro g_ b_ fU;refine a_.jP rfl rfl rfl rfl (fun h_=>by cases h_) aJ ?_;refine Q3 ?_;refine aB ?_;refine AR.meet kv aI (fun g_=>fe rfl ?_ ?_ rfl);(iterate 43 refine aC ?_);exact trivial;exact DN;refine AR.fA (i:=20) rfl aI rfl ?_;intro g_ b_ fU;(with_reducible apply a_.mL 9);exact rfl;exact rfl;exact ah;(iterate 8 exact rfl);omega;(intro v_ Kk);refine oy ?_;refine AR.iP [21] aI aI aI aI ?_;intro g_ b_;show a_ .held _ _ _ [_] _ _;refine w7 ?_;intro k_ iE;refine Q0 ?_;refine AR.im (i:=22) rfl aI rfl aI ?_;intro g_ b_ eT;(with_reducible apply a_.gQ);(iterate 4 exact rfl);exact ag;(iterate 3 exact rfl);refine s5 ?_;refine Jy ?_;refine Qf ?_)
       rw[← hy] at*
       refine⟨({τ with cl:=e_ CL j D,hw:=e_ τ.hw (eX y).toNat v_,wl:=e_ τ.wl (eX y).toNat (τ.wl (eX y).toNat++ [(j:Int)])},m,i+1),hM _,by show _ - (i+1)<_ - i;omega,fe rfl (by(refine Vg ?_;exact trivial)) (by(refine⟨.box _ rfl ?_,?_⟩;refine Q82 ?_;exact trivial;refine VP ?_;exact trivial)) rfl⟩
     ·obtain rfl:k=(CL j).length:=by omega
      have j4:∀x∈CL j,x≠c0 (CL j)→ -x∈τ.ll 0:=fun x hx gn=>by
       obtain⟨p,hp,rfl⟩:=da hx
       by_cases e0:p=0
       ·subst e0;exact absurd (fJ hp).symm gn
       ·by_cases e1:p=1
        ·subst e1
         rw[show(CL j)[1]=g from(fJ hp).symm.trans j9];exact IH
        ·exact Uk p hp aJ hp
      by_cases JY: -(CL j)[(0:Int).toNat]∈τ.ll 0
      ·have yO:=lG (s:={τ with cl:=CL,wl:=e_ τ.wl (eX g).toNat ((τ.wl (eX g).toNat).set m (j:Int))}) (r:= -1) ld tC sA xb (by rw[if_neg IZ,if_pos JY])
       simp only[ie,ij] at yO
       (refine Dq ?_;show a_ .held _ _ _ [_,_,_,_,_,_,_,_,_,_,_] _ _;refine Db ?_;refine zm ?_;refine M5 ?_;intro k_ iE;refine B5 ?_;intro g_ b_ fU;refine wW ?_;refine AM ?_;intro g_ b_ eT;refine wW ?_;refine wE ?_;intro g_ b_ eT;refine wW ?_;refine wH ?_;intro g_ b_ eT;refine Ov ?_;(with_reducible apply a_.oE);(iterate 5 exact rfl);exact ag;exact rfl;exact rfl;refine Q0 ?_;(with_reducible apply a_.jO 9);exact rfl;exact rfl;exact ah;(iterate 6 exact rfl);exact ab;refine OF ?_;show a_ .held _ _ _ [_,_,_,_,_] _ _;refine tN ?_;(with_reducible apply a_.e9 7);(iterate 8 exact rfl);exact ab;exact ab;refine Q3 ?_;intro k_ iE;refine s8 ?_;intro g_ b_ fU;refine ax ?_;refine xr ?_;intro g_ b_ eT;refine zX (yO) ?_;refine k9 ?_;refine wy ?_;intro g_ b_ eT;refine zs ?_;refine Q3 ?_;refine I0 ?_;refine kJ ?_;(iterate 3 refine zm ?_);refine zj ?_;(with_reducible apply a_.yD 9);(iterate 8 exact rfl);exact ab;exact ab;(with_reducible apply a_.qe 9 (m+1) ((i:Int)+1).toNat);(iterate 8 exact rfl);omega;(simp only[e7,cM];omega);(intro h_;have:=congrArg dV h_;simp only[e7,cM,bV] at this;omega);refine aB ?_;refine lK ?_;refine AW.mS 23 ?_)
       refine Stop.go ?_
       refine AW.ta 9 (eX g).toNat (m+1+((τ.wl (eX g).toNat).length - ((i:Int)+1).toNat)) rfl ?_ ?_
       ·simp only[e7,bW,cO,cV,cM];omega
       (conv=>rhs;simp only[e7,jQ,cM])
       have FL:=G5 TF qU hR
       have n4:0≤eX g∧(eX g).toNat<τ.nw:=by have:=gT Cu;omega
       have YU:∀x∈CL j,-x∈τ.ll 0:=fun x hx=>by
        by_cases e:x=c0 (CL j)
        ·rw[e,← oH];exact JY
        ·exact j4 x hx e
       (conv=>rhs;rw[FL])
       (refine zo ?_;refine Si ?_;show a_ .held _ _ _ [_,_,_,_,_,_] _ _;refine Aa ?_;refine DP ?_;refine Q3 ?_;intro k_ iE;refine s8 ?_;intro g_ b_ fU;refine Rm ?_;intro g_ b_;show a_ .held _ _ _ [_] _ _;refine w7 ?_;intro k_ iE;refine Q0 ?_;refine vS ?_;intro g_ b_ eT;(with_reducible apply a_.gQ);(iterate 4 exact rfl);exact ag;(iterate 3 exact rfl);refine s5 ?_;refine qE ?_;refine qP ?_;(iterate 2 refine PX ?_))
       (apply hX ((({τ with cl:=CL,hw:=e_ τ.hw (eX g).toNat (jw (m+1+((τ.wl (eX g).toNat).length - ((i:Int)+1).toNat)) (τ.hw (eX g).toNat)),wl:=e_ τ.wl (eX g).toNat ((τ.wl (eX g).toNat).take m++(τ.wl (eX g).toNat).drop i)},(j:Int)):SR×Int)) (⟨hQ.inv.hw _,hQ.ext.EN fun _=> .refl _,.inr ⟨j,hj,rfl,YU⟩⟩);((exact gm.one (.tmp rfl rfl)));((refine⟨.fm (by first|rfl|exact fZ _ n4.2 _),?_⟩;exact vM));((exact VT));exact rfl)
      ·have yO:=lG (s:={τ with cl:=CL,wl:=e_ τ.wl (eX g).toNat ((τ.wl (eX g).toNat).set m (j:Int))}) (r:=0) ld tC sA xb (by rw[if_neg IZ,if_neg JY])
       simp only[ie,ij] at yO
       have hp:=rQ {τ with cl:=CL,wl:=e_ τ.wl (eX g).toNat ((τ.wl (eX g).toNat).set m (j:Int))} (CL j)[(0:Int).toNat] (j:Int) (by obtain⟨_,_,_⟩:=xb;omega) (by obtain⟨_,_,_⟩:=xb;show _<(τ.value.length:Int)∧_<(τ.value.length:Int);omega) (by show τ.level.length=τ.value.length;omega) (by show τ.reason.length=τ.value.length;omega) (by show(τ.ll 0).length≤_;omega) (by show τ.marks.length≤_;rw[hP.ext.marks];exact P9)
       simp only[ie,ij] at hp
       (refine Dq ?_;show a_ .held _ _ _ [_,_,_,_,_,_,_,_,_,_,_] _ _;refine Db ?_;refine zm ?_;refine M5 ?_;intro k_ iE;refine B5 ?_;intro g_ b_ fU;refine wW ?_;refine AM ?_;intro g_ b_ eT;refine wW ?_;refine wE ?_;intro g_ b_ eT;refine wW ?_;refine wH ?_;intro g_ b_ eT;refine Ov ?_;(with_reducible apply a_.oE);(iterate 5 exact rfl);exact ag;exact rfl;exact rfl;refine Q0 ?_;(with_reducible apply a_.jO 9);exact rfl;exact rfl;exact ah;(iterate 6 exact rfl);exact ab;refine OF ?_;show a_ .held _ _ _ [_,_,_,_,_] _ _;refine tN ?_;(with_reducible apply a_.e9 7);(iterate 8 exact rfl);exact ab;exact ab;refine Q3 ?_;intro k_ iE;refine s8 ?_;intro g_ b_ fU;refine ax ?_;refine xr ?_;intro g_ b_ eT;refine zX (yO) ?_;refine k9 ?_;refine wy ?_;intro g_ b_ eT;refine US ?_;show a_ .held _ _ _ [_,_,_,_,_,_] _ _;refine tN ?_;(with_reducible apply a_.e9 7);(iterate 8 exact rfl);exact ab;exact ab;refine zm ?_;refine Q3 ?_;intro k_ iE;refine s8 ?_;intro g_ b_ fU;refine ax ?_;refine wy ?_;intro g_ b_ eT;(with_reducible apply a_.kI (hf:=hp));(with_reducible assumption);(iterate 3 exact rfl);exact aq;exact ak;(intro x_;exact rfl);exact rfl;exact al;(intro x_;exact al);(intro x_;exact rfl);exact rfl;(intro x_ rL);refine Q1 ?_;refine ya ?_;refine tP ?_)
       have Vs:=hQ.push hj v7 j9 j4 (by rw[← oH];exact IZ) (by rw[← oH];exact JY) x_
       rw[show c0 (SR.cl {τ with cl:=CL} j)=(CL j)[(0:Int).toNat] from oH.symm] at Vs
       exact⟨(fO {τ with cl:=CL,wl:=e_ τ.wl (eX g).toNat ((τ.wl (eX g).toNat).set m (j:Int))} (CL j)[(0:Int).toNat] (j:Int) x_,m+1,i+1),Vs,by show _ - (i+1)<_ - i;omega,fe rfl (by(refine aD ?_;(iterate 5 refine aD ?_);(iterate 2 refine aC ?_);exact trivial)) (by(refine⟨.box _ rfl ?_,?_⟩;(iterate 3 refine aE ?_);refine aD ?_;refine aE ?_;refine aD ?_;(iterate 2 refine aE ?_);(iterate 3 refine aD ?_);refine aE ?_;refine aD ?_;(iterate 2 refine aG ?_);exact trivial;(iterate 3 refine aH ?_);(iterate 7 refine aF ?_);exact trivial)) rfl⟩
   ·(refine ru ?_;refine zm ?_;(with_reducible apply a_.e9 9);(iterate 8 exact rfl);exact ab;exact ab;(focus ((with_reducible apply a_.tT 9);(iterate 5 exact rfl);exact ar;rotate_left;exact ab));refine uf ?_;refine kJ ?_;refine Mt ?_;refine iY ?_;refine TG ?_;refine a_.jP rfl rfl rfl rfl (fun h_=>by cases h_) aJ ?_;refine kc ?_;(with_reducible apply AW.xe 10);(rw[hR0]);(rw[dq j]);refine qw ?_;(with_reducible apply a_.e9 7);(iterate 8 exact rfl);exact ab;exact ab;refine ax ?_;refine qI ?_;refine qx ?_;refine AW.mS 12 ?_)
    have hQ:wo n s σ.head (σ.wl (eX g).toNat).length g {τ with cl:=τ.cl} m i:=hP
    have j9:c1 (τ.cl j)=g:=TC.resolve_left fun e=>hsw ((fJ hz).symm.trans e)
    refine Stop.go ?_
    obtain⟨jF,Te,NU⟩:=hQ.inv.cls j hj
    have jF:2≤(τ.cl j).length:=jF
    have Te:(τ.cl j).Nodup:=Te
    have NU:∀x∈τ.cl j,Lit n x:=NU
    have hq3:(τ.cl j).length≤2*n+2:=hQ.inv.FT hj
    have IH:=hQ.gl.2
    have ld:τ.value=lX n (τ.ll 0):=hQ.inv.val
    have tC:kd n (τ.ll 0):=hQ.inv.iU
    have L2:(0:Int).toNat<(τ.cl j).length:=show 0<_ by omega
    have Kn:(1:Int).toNat<(τ.cl j).length:=show 1<_ by omega
    have oH:(τ.cl j)[(0:Int).toNat]=c0 (τ.cl j):=(fJ L2).symm
    have Bu:(τ.cl j)[(1:Int).toNat]=c1 (τ.cl j):=(fJ Kn).symm
    have xb:=NU _ (cY L2)
    by_cases IZ:(τ.cl j)[(0:Int).toNat]∈τ.ll 0
    ·have w6:=lG (s:={τ with cl:=τ.cl}) (r:=1) ld tC sA xb (if_pos IZ).symm
     simp only[ie,ij] at w6
     (refine zo ?_;refine EL ?_;show a_ .held _ _ _ [_,_,_,_,_] _ _;refine tN ?_;(with_reducible apply a_.e9 7);(iterate 8 exact rfl);exact ab;exact ab;refine Q3 ?_;intro k_ iE;refine s8 ?_;intro g_ b_ fU;refine ax ?_;refine xr ?_;intro g_ b_ eT;refine Fj ?_;refine wy ?_;intro g_ b_ eT;refine a_.gtr rfl rfl rfl rfl rfl ?_;refine Q3 ?_;refine I0 ?_;refine kJ ?_;(iterate 2 refine zm ?_);(with_reducible apply a_.oE);(iterate 5 exact rfl);exact ag;exact rfl;exact rfl;refine Q0 ?_;(with_reducible apply a_.jO 9);exact rfl;exact rfl;exact ah;(iterate 6 exact rfl);exact ab;refine Q0 ?_;refine lK ?_;refine Jy ?_;refine td ?_)
     refine⟨({τ with cl:=τ.cl,wl:=e_ τ.wl (eX g).toNat ((τ.wl (eX g).toNat).set m (j:Int))},m+1,i+1),hQ.keep hj v7 j9 (by rw[← oH];exact IZ),by show _ - (i+1)<_ - i;omega,fe rfl (by(refine E7 ?_;(iterate 5 refine aD ?_);exact Fq)) (by(exact Uf)) rfl⟩
    ·obtain⟨r0,xp⟩:∃r:Int,r=if -(τ.cl j)[(0:Int).toNat]∈τ.ll 0 then -1 else 0:=⟨_,rfl⟩
     have YG: -1≤r0∧r0≤0:=by rw[xp];split<;>omega
     have w6:=lG (s:={τ with cl:=τ.cl}) (r:=r0) ld tC sA xb (by rw[if_neg IZ];exact xp)
     simp only[ie,ij] at w6
     (refine zo ?_;refine EL ?_;show a_ .held _ _ _ [_,_,_,_,_] _ _;refine tN ?_;(with_reducible apply a_.e9 7);(iterate 8 exact rfl);exact ab;exact ab;refine Q3 ?_;intro k_ iE;refine s8 ?_;intro g_ b_ fU;refine ax ?_;refine xr ?_;intro g_ b_ eT;refine Fj ?_;refine wy ?_;intro g_ b_ eT;refine a_.gtr rfl rfl rfl rfl rfl ?_;refine Q3 ?_;refine Cq ?_;refine zk ?_;refine vH ?_;refine kJ ?_;refine kc ?_;refine AW.block ?_)
     (refine Q0 ?_;apply AW.gJ [8,7,6,4,5,50,52,51,3,0,1000] [0,1,2,3,4,5,6,7,8,9,10] (fun k:Nat=>([(9,eU k)]:List (Nat×AV))) (fun k:Nat=>([]:List (Nat×Option Ob))) (fun k:Nat=>(2≤k∧k≤(τ.cl j).length∧∀p (hp:p<(τ.cl j).length),2≤p→p<k→ -(τ.cl j)[p]∈τ.ll 0)) (fun k:Nat=>(τ.cl j).length - k) (2);(conv=>lhs;simp only[Nf.ot,Nf.all,df,reduceAdd,reduceSub]);(all_goals skip))
     ·exact⟨aP _,jF,fun p _ h1 h2=>by omega⟩
     ·exact Q67
     rintro k ⟨qh,MX,Uk⟩
     by_cases hk:k<(τ.cl j).length
     ·have Vb:(k:Int).toNat<(τ.cl j).length:=by omega
      have Et:=NU _ (cY Vb)
      by_cases BA: -(τ.cl j)[(k:Int).toNat]∈τ.ll 0
      ·have DX:=lG (s:={τ with cl:=τ.cl}) (r:= -1) ld tC sA Et (by rw[if_neg fun hh=>tC.oY hh BA,if_pos BA])
       simp only[ie,ij] at DX
       (refine Dq ?_;show a_ .held _ _ _ [_,_,_,_,_,_,_,_,_,_,_] _ _;refine NW ?_;(with_reducible apply a_.e9 7);(iterate 8 exact rfl);exact ab;exact ab;refine Q3 ?_;intro k_ iE;refine B5 ?_;intro g_ b_ fU;refine zt ?_;refine ax ?_;refine Q3 ?_;refine AM ?_;intro g_ b_ eT;refine NI ?_;intro g_ b_ eT;refine zt ?_;refine zs ?_;refine Q3 ?_;refine wH ?_;intro g_ b_ eT;refine V5 ?_)
       exact⟨k+1,⟨by omega,by omega,fun p hp h1 h2=>by
        by_cases e:p=k
        ·subst e;exact BA
        ·exact Uk p hp h1 aJ⟩,by omega,fe rfl (by(refine aD ?_;(iterate 9 refine aD ?_);(iterate 2 refine aC ?_);exact trivial)) (by(refine⟨.box _ rfl ?_,?_⟩;(iterate 3 refine aE ?_);refine aD ?_;refine aE ?_;refine aD ?_;(iterate 2 refine aE ?_);(iterate 3 refine aD ?_);refine aE ?_;refine aD ?_;(iterate 2 refine aG ?_);exact trivial;(iterate 3 refine aF ?_);refine aH ?_;(iterate 2 refine aF ?_);refine aH ?_;refine aF ?_;refine aH ?_;refine aF ?_;exact trivial)) rfl⟩
      ·obtain⟨rk,UR⟩:∃r:Int,r=if (τ.cl j)[(k:Int).toNat]∈τ.ll 0 then 1 else if -(τ.cl j)[(k:Int).toNat]∈τ.ll 0 then -1 else 0:=⟨_,rfl⟩
       have Zq:0≤rk∧rk≤1:=by rw[UR,if_neg BA];split<;>omega
       have DX:=lG (s:={τ with cl:=τ.cl}) (r:=rk) ld tC sA Et UR
       simp only[ie,ij] at DX
       obtain⟨D,hD⟩:∃D,D=((τ.cl j).set (1:Int).toNat (τ.cl j)[(k:Int).toNat]).set (k:Int).toNat (τ.cl j)[(1:Int).toNat]:=⟨_,rfl⟩
       have hS2:(k:Int).toNat<(e_ τ.cl j ((τ.cl j).set (1:Int).toNat (τ.cl j)[(k:Int).toNat]) j).length:=by rw[e7,cM];exact Vb
       obtain⟨d0,d1⟩:=J_ qh hk
       have PR:D=((τ.cl j).set 1 (τ.cl j)[k]).set k ((τ.cl j)[1]'(by omega)):=hD
       have GQ:mb (τ.cl j) D:=by rw[PR];exact pK (i:=1) (k:=k) aJ hk
       rw[← PR] at d0 d1
       have SQ:(1:Int).toNat<(e_ τ.cl j D j).length:=by rw[e7,GQ.len];exact Kn
       obtain⟨y,hy⟩:∃y,y=(e_ τ.cl j D j)[(1:Int).toNat]:=⟨_,rfl⟩
       have K7:y=(τ.cl j)[k]:=by
        rw[hy,← d1]
        have:∀(L:List Int) (hL:(1:Int).toNat<L.length),L=D→L[(1:Int).toNat]=c1 D:=fun L hL e=>by subst e;exact(fJ hL).symm
        exact this _ SQ (e7 _ _ _)
       have y8:Lit n y:=by rw[K7];exact Et
       have JC:y≠g:=fun e=>BA (by rw[show(τ.cl j)[(k:Int).toNat]=y from K7.symm,e];exact IH)
       have Qc: -1000000≤y∧y≤1000000:=by obtain⟨_,_,_⟩:=y8;omega
       have ET:0≤eX y∧(eX y).toNat<τ.nw:=by have:=gT y8;omega
       have gn:(eX g).toNat≠(eX y).toNat:=fun q=>JC (iw y8 Cu q.symm)
       have QM:(τ.wl (eX y).toNat).length≤τ.nc:=by
        have:=hQ.inv.IF y8
        simp only[fC _ _ (Ne.symm gn)] at this
        exact this
       have hM:=hQ.move (y:=y) hj v7 JK j9 GQ d0 (d1.trans K7.symm) JC (fun e=>by
        rw[K7,show c0 (τ.cl j)=(τ.cl j)[0] from fJ aJ] at e
        have:=(dr Te (h₀:=hk) (h₁:=by omega)).1 e
        omega) (by rw[K7];exact BA)
       rw[hy] at Qc ET QM
       have Vt:=xt _ Qc
       (refine Dq ?_;show a_ .held _ _ _ [_,_,_,_,_,_,_,_,_,_,_] _ _;refine NW ?_;(with_reducible apply a_.e9 7);(iterate 8 exact rfl);exact ab;exact ab;refine Q3 ?_;intro k_ iE;refine B5 ?_;intro g_ b_ fU;refine zt ?_;refine ax ?_;refine Q3 ?_;refine AM ?_;intro g_ b_ eT;refine NI ?_;intro g_ b_ eT;refine zt ?_;refine zs ?_;refine Q3 ?_;refine wH ?_;intro g_ b_ eT;refine zT ?_;refine Q3 ?_;refine Cq ?_;refine tW ?_;refine zo ?_;refine kJ ?_;refine Db ?_;refine jD ?_;refine zo ?_;(with_reducible apply AW.PK 18 30 [0,3,4,5,7,8,9,50,51,52,1000]);exact rfl;refine Uh ?_;show a_ .held _ _ _ [_,_,_,_,_,_] _ _;(iterate 3 refine zm ?_);(with_reducible apply a_.e9 7);(iterate 8 exact rfl);exact ab;exact ab;refine zm ?_;(with_reducible apply a_.e9 7);(iterate 8 exact rfl);exact ab;exact ab;refine Q3 ?_;intro k_ iE;refine Q0 ?_;(refine AR.free 1 aI rfl rfl rfl (by first|exact fS.fN rfl rfl|exact fS.iD rfl rfl|exact fS.nilCheck rfl rfl) ?_);(refine AR.free 2 aI rfl rfl rfl (by first|exact fS.fN rfl rfl|exact fS.iD rfl rfl|exact fS.nilCheck rfl rfl) ?_);apply AR.cut [2,1,8,7,5,4,3,0,6,9];intro kv;(refine AR.gh (i:=6) (j:=9) rfl aI rfl rfl ?_ ?_<;>intro g_ b_ fU);refine ax ?_;refine Pe ?_;intro g_ b_ fU;refine ax ?_;refine Q3 ?_;refine aB ?_;exact pE;refine ax ?_;refine JV ?_;intro g_ b_ fU;refine ax ?_;refine Q3 ?_;refine aB ?_;refine Iv ?_;refine R3 ?_;exact trivial;refine AR.iP [10] aI aI aI aI ?_;intro g_ b_;show a_ .held _ _ _ [_] _ _;(with_reducible apply a_.e9 7);(iterate 8 exact rfl);exact ab;exact ab;refine Q3 ?_;intro k_ iE;refine Q0 ?_;refine uo ?_;intro g_ b_ eT;(with_reducible apply a_.lN 7);(iterate 7 exact rfl);exact ab;refine oy ?_;refine AM ?_;intro g_ b_ eT;(with_reducible apply a_.e9 7);(iterate 8 exact rfl);exact ab;exact ab;refine Q3 ?_;refine wE ?_;intro g_ b_ eT;(with_reducible apply a_.lN 7);(iterate 7 exact rfl);exact ab;refine s5 ?_;(with_reducible apply AW.xe 19);(rw[jQ]);(rw[e7]);(rw[← hD]);refine zo ?_;refine AW.gg [0,1,2,3,4,5,8,9,10,11,12,13,18] [22] rfl (by assumption) aI aI rfl ?_;show a_ .held _ _ _ [_,_,_,_,_,_,_,_,_,_,_,_,_] _ _;refine Aa ?_;refine iY ?_;(with_reducible apply a_.e9 7);(iterate 8 exact rfl);exact ab;exact ab;refine Aa ?_;refine iY ?_;(with_reducible apply a_.e9 7);(iterate 8 exact rfl);exact ab;exact ab;refine zm ?_;refine Q3 ?_;intro k_ iE;refine Q0 ?_;apply AR.cut [18,13,12,11,10,9,8,5,4,3,2,1,0,6,7,14,15,16,17,19];intro kv;apply AR.cut [18,13,12,11,10,9,8,5,4,3,2,1,0,6,7,14,15,16,19];intro ly;apply AR.cut [18,13,12,11,10,9,8,5,4,3,2,1,0,6,7,14,15,19];intro lu;apply AR.cut [18,13,12,11,10,9,8,5,4,3,2,1,0,6,7,14,19];intro lF;apply AR.cut [18,13,12,11,10,9,8,5,4,3,2,1,0,6,7,14];intro ni;apply AR.cut [18,13,12,11,10,9,8,5,4,3,2,1,0,6,7,19];intro mP;apply AR.cut [18,13,12,11,10,9,8,5,4,3,2,1,0,6,14,19];intro vg;apply AR.cut [18,13,12,11,10,9,8,5,4,3,2,1,0,6,19];intro DV;apply AR.cut [18,13,12,11,10,9,8,5,4,3,2,1,0,14,19];intro Kc;apply AR.cut [18,13,12,11,10,9,8,5,4,3,2,1,0,6,14];intro J9;(refine AR.pS (i:=6) (j:=14) (m:=19) rfl aI rfl rfl rfl ?_ ?_ ?_<;>intro g_ b_ fU);refine ax ?_;refine Q3 ?_;(refine AR.pS (i:=7) (j:=14) (m:=19) rfl aI rfl rfl rfl ?_ ?_ ?_<;>intro g_ b_ fU);refine wM ?_;(refine AR.gh (i:=14) (j:=19) rfl aI rfl rfl ?_ ?_<;>intro g_ b_ fU);refine ax ?_;refine Q3 ?_;refine aB ?_;refine Q5 ?_;exact AR.perm aI ni;(with_reducible apply a_.oE);(iterate 5 exact rfl);exact ag;exact rfl;exact rfl;refine oy ?_;refine aB ?_;refine Q5 ?_;exact AR.perm aI mP;refine ax ?_;refine Q3 ?_;refine aB ?_;refine Q5 ?_;exact AR.perm aI J9;(with_reducible apply a_.oE);(iterate 5 exact rfl);exact ag;exact rfl;exact rfl;refine oy ?_;refine aB ?_;refine Q5 ?_;exact AR.perm aI DV;refine ax ?_;refine Q3 ?_;(refine AR.gh (i:=6) (j:=19) rfl aI rfl rfl ?_ ?_<;>intro g_ b_ fU);refine ax ?_;refine Q3 ?_;refine aB ?_;refine AR.meet J9 aI (fun g_=>fe rfl ?_ ?_ rfl);exact HV;refine Ix ?_;exact trivial;(with_reducible apply a_.oE);(iterate 5 exact rfl);exact ag;exact rfl;exact rfl;refine oy ?_;refine aB ?_;refine Q5 ?_;exact AR.perm aI Kc;(with_reducible apply a_.oE);(iterate 5 exact rfl);exact ag;exact rfl;exact rfl;refine oy ?_;(refine AR.gh (i:=6) (j:=14) rfl aI rfl rfl ?_ ?_<;>intro g_ b_ fU);refine ax ?_;refine Q3 ?_;refine aB ?_;refine AR.meet DV aI (fun g_=>fe rfl ?_ ?_ rfl);exact HV;exact DN;refine ax ?_;refine Q3 ?_;refine aB ?_;refine AR.meet Kc aI (fun g_=>fe rfl ?_ ?_ rfl);exact HV;exact DN;(refine AR.gh (i:=7) (j:=19) rfl aI rfl rfl ?_ ?_<;>intro g_ b_ fU);refine wM ?_;refine aB ?_;refine AR.meet ni aI (fun g_=>fe rfl ?_ ?_ rfl);(iterate 39 refine aC ?_);exact trivial;refine Ix ?_;exact trivial;(with_reducible apply a_.oE);(iterate 5 exact rfl);exact ag;exact rfl;exact rfl;refine oy ?_;refine aB ?_;refine Q5 ?_;exact AR.perm aI vg;refine AR.fA (i:=6) rfl aI rfl ?_;intro g_ b_ fU;refine ax ?_;refine Q3 ?_;refine aB ?_;exact N8;(refine AR.gh (i:=7) (j:=14) rfl aI rfl rfl ?_ ?_<;>intro g_ b_ fU);refine wM ?_;refine aB ?_;refine AR.meet mP aI (fun g_=>fe rfl ?_ ?_ rfl);(iterate 39 refine aC ?_);exact trivial;exact DN;refine ax ?_;refine Q3 ?_;refine aB ?_;exact N8;refine AR.fA (i:=7) rfl aI rfl ?_;intro g_ b_ fU;refine wM ?_;refine aB ?_;exact Jh;refine AR.fA (i:=14) rfl aI rfl ?_;intro g_ b_ fU;refine ax ?_;refine Q3 ?_;refine aB ?_;exact Nb;(refine AR.gh (i:=15) (j:=19) rfl aI rfl rfl ?_ ?_<;>intro g_ b_ fU);refine wM ?_;(refine AR.gh (i:=16) (j:=19) rfl aI rfl rfl ?_ ?_<;>intro g_ b_ fU);refine w7 ?_;(refine AR.gh (i:=17) (j:=19) rfl aI rfl rfl ?_ ?_<;>intro g_ b_ fU);refine a_.jP rfl rfl rfl rfl (fun h_=>by cases h_) aJ ?_;refine Q3 ?_;refine AR.fA (i:=19) rfl aI rfl ?_;intro g_ b_ fU;(with_reducible apply a_.oE);(iterate 5 exact rfl);exact ag;exact rfl;exact rfl;refine oy ?_;refine aB ?_;exact pE;(with_reducible apply a_.oE);(iterate 5 exact rfl);exact ag;exact rfl;exact rfl;refine oy ?_;refine aB ?_;exact ss;(with_reducible apply a_.oE);(iterate 5 exact rfl);exact ag;exact rfl;exact rfl;refine oy ?_;refine aB ?_;exact BV;(with_reducible apply a_.oE);(iterate 5 exact rfl);exact ag;exact rfl;exact rfl;refine oy ?_;refine aB ?_;exact Nb;refine AR.fA (i:=15) rfl aI rfl ?_;intro g_ b_ fU;refine wM ?_;refine aB ?_;refine AR.meet lu aI (fun g_=>fe rfl ?_ ?_ rfl);(iterate 41 refine aC ?_);exact trivial;exact DN;refine AR.fA (i:=16) rfl aI rfl ?_;intro g_ b_ fU;refine w7 ?_;refine aB ?_;refine AR.meet ly aI (fun g_=>fe rfl ?_ ?_ rfl);(iterate 42 refine aC ?_);exact trivial;exact DN;refine AR.fA (i:=17) rfl aI rfl ?_;intro g_ b_ fU;refine a_.jP rfl rfl rfl rfl (fun h_=>by cases h_) aJ ?_;refine Q3 ?_;refine aB ?_;refine AR.meet kv aI (fun g_=>fe rfl ?_ ?_ rfl);(iterate 43 refine aC ?_);exact trivial;exact DN;refine AR.fA (i:=20) rfl aI rfl ?_;intro g_ b_ fU;(with_reducible apply a_.mL 9);exact rfl;exact rfl;exact ah;(iterate 8 exact rfl);omega;(intro v_ Kk);refine oy ?_;refine AR.iP [21] aI aI aI aI ?_;intro g_ b_;show a_ .held _ _ _ [_] _ _;refine w7 ?_;intro k_ iE;refine Q0 ?_;refine AR.im (i:=22) rfl aI rfl aI ?_;intro g_ b_ eT;(with_reducible apply a_.gQ);(iterate 4 exact rfl);exact ag;(iterate 3 exact rfl);refine s5 ?_;refine Jy ?_;refine Qf ?_)
       rw[← hy] at*
       refine⟨({τ with cl:=e_ τ.cl j D,hw:=e_ τ.hw (eX y).toNat v_,wl:=e_ τ.wl (eX y).toNat (τ.wl (eX y).toNat++ [(j:Int)])},m,i+1),hM _,by show _ - (i+1)<_ - i;omega,fe rfl (by(refine Vg ?_;exact trivial)) (by(refine⟨.box _ rfl ?_,?_⟩;refine Q82 ?_;exact trivial;refine VP ?_;exact trivial)) rfl⟩
     ·obtain rfl:k=(τ.cl j).length:=by omega
      have j4:∀x∈τ.cl j,x≠c0 (τ.cl j)→ -x∈τ.ll 0:=fun x hx gn=>by
       obtain⟨p,hp,rfl⟩:=da hx
       by_cases e0:p=0
       ·subst e0;exact absurd (fJ hp).symm gn
       ·by_cases e1:p=1
        ·subst e1
         rw[show(τ.cl j)[1]=g from(fJ hp).symm.trans j9];exact IH
        ·exact Uk p hp aJ hp
      by_cases JY: -(τ.cl j)[(0:Int).toNat]∈τ.ll 0
      ·have yO:=lG (s:={τ with cl:=τ.cl,wl:=e_ τ.wl (eX g).toNat ((τ.wl (eX g).toNat).set m (j:Int))}) (r:= -1) ld tC sA xb (by rw[if_neg IZ,if_pos JY])
       simp only[ie,ij] at yO
       (refine Dq ?_;show a_ .held _ _ _ [_,_,_,_,_,_,_,_,_,_,_] _ _;refine Db ?_;refine zm ?_;refine M5 ?_;intro k_ iE;refine B5 ?_;intro g_ b_ fU;refine wW ?_;refine AM ?_;intro g_ b_ eT;refine wW ?_;refine wE ?_;intro g_ b_ eT;refine wW ?_;refine wH ?_;intro g_ b_ eT;refine Ov ?_;(with_reducible apply a_.oE);(iterate 5 exact rfl);exact ag;exact rfl;exact rfl;refine Q0 ?_;(with_reducible apply a_.jO 9);exact rfl;exact rfl;exact ah;(iterate 6 exact rfl);exact ab;refine OF ?_;show a_ .held _ _ _ [_,_,_,_,_] _ _;refine tN ?_;(with_reducible apply a_.e9 7);(iterate 8 exact rfl);exact ab;exact ab;refine Q3 ?_;intro k_ iE;refine s8 ?_;intro g_ b_ fU;refine ax ?_;refine xr ?_;intro g_ b_ eT;refine zX (yO) ?_;refine k9 ?_;refine wy ?_;intro g_ b_ eT;refine zs ?_;refine Q3 ?_;refine I0 ?_;refine kJ ?_;(iterate 3 refine zm ?_);refine zj ?_;(with_reducible apply a_.yD 9);(iterate 8 exact rfl);exact ab;exact ab;(with_reducible apply a_.qe 9 (m+1) ((i:Int)+1).toNat);(iterate 8 exact rfl);omega;(simp only[e7,cM];omega);(intro h_;have:=congrArg dV h_;simp only[e7,cM,bV] at this;omega);refine aB ?_;refine lK ?_;refine AW.mS 23 ?_)
       refine Stop.go ?_
       refine AW.ta 9 (eX g).toNat (m+1+((τ.wl (eX g).toNat).length - ((i:Int)+1).toNat)) rfl ?_ ?_
       ·simp only[e7,bW,cO,cV,cM];omega
       (conv=>rhs;simp only[e7,jQ,cM])
       have FL:=G5 TF qU hR
       have n4:0≤eX g∧(eX g).toNat<τ.nw:=by have:=gT Cu;omega
       have YU:∀x∈τ.cl j,-x∈τ.ll 0:=fun x hx=>by
        by_cases e:x=c0 (τ.cl j)
        ·rw[e,← oH];exact JY
        ·exact j4 x hx e
       (conv=>rhs;rw[FL])
       (refine zo ?_;refine Si ?_;show a_ .held _ _ _ [_,_,_,_,_,_] _ _;refine Aa ?_;refine DP ?_;refine Q3 ?_;intro k_ iE;refine s8 ?_;intro g_ b_ fU;refine Rm ?_;intro g_ b_;show a_ .held _ _ _ [_] _ _;refine w7 ?_;intro k_ iE;refine Q0 ?_;refine vS ?_;intro g_ b_ eT;(with_reducible apply a_.gQ);(iterate 4 exact rfl);exact ag;(iterate 3 exact rfl);refine s5 ?_;refine qE ?_;refine qP ?_;(iterate 2 refine PX ?_))
       (apply hX ((({τ with cl:=τ.cl,hw:=e_ τ.hw (eX g).toNat (jw (m+1+((τ.wl (eX g).toNat).length - ((i:Int)+1).toNat)) (τ.hw (eX g).toNat)),wl:=e_ τ.wl (eX g).toNat ((τ.wl (eX g).toNat).take m++(τ.wl (eX g).toNat).drop i)},(j:Int)):SR×Int)) (⟨hQ.inv.hw _,hQ.ext.EN fun _=> .refl _,.inr ⟨j,hj,rfl,YU⟩⟩);((exact gm.one (.tmp rfl rfl)));((refine⟨.fm (by first|rfl|exact fZ _ n4.2 _),?_⟩;exact vM));((exact VT));exact rfl)
      ·have yO:=lG (s:={τ with cl:=τ.cl,wl:=e_ τ.wl (eX g).toNat ((τ.wl (eX g).toNat).set m (j:Int))}) (r:=0) ld tC sA xb (by rw[if_neg IZ,if_neg JY])
       simp only[ie,ij] at yO
       have hp:=rQ {τ with cl:=τ.cl,wl:=e_ τ.wl (eX g).toNat ((τ.wl (eX g).toNat).set m (j:Int))} (τ.cl j)[(0:Int).toNat] (j:Int) (by obtain⟨_,_,_⟩:=xb;omega) (by obtain⟨_,_,_⟩:=xb;show _<(τ.value.length:Int)∧_<(τ.value.length:Int);omega) (by show τ.level.length=τ.value.length;omega) (by show τ.reason.length=τ.value.length;omega) (by show(τ.ll 0).length≤_;omega) (by show τ.marks.length≤_;rw[hP.ext.marks];exact P9)
       simp only[ie,ij] at hp
       (refine Dq ?_;show a_ .held _ _ _ [_,_,_,_,_,_,_,_,_,_,_] _ _;refine Db ?_;refine zm ?_;refine M5 ?_;intro k_ iE;refine B5 ?_;intro g_ b_ fU;refine wW ?_;refine AM ?_;intro g_ b_ eT;refine wW ?_;refine wE ?_;intro g_ b_ eT;refine wW ?_;refine wH ?_;intro g_ b_ eT;refine Ov ?_;(with_reducible apply a_.oE);(iterate 5 exact rfl);exact ag;exact rfl;exact rfl;refine Q0 ?_;(with_reducible apply a_.jO 9);exact rfl;exact rfl;exact ah;(iterate 6 exact rfl);exact ab;refine OF ?_;show a_ .held _ _ _ [_,_,_,_,_] _ _;refine tN ?_;(with_reducible apply a_.e9 7);(iterate 8 exact rfl);exact ab;exact ab;refine Q3 ?_;intro k_ iE;refine s8 ?_;intro g_ b_ fU;refine ax ?_;refine xr ?_;intro g_ b_ eT;refine zX (yO) ?_;refine k9 ?_;refine wy ?_;intro g_ b_ eT;refine US ?_;show a_ .held _ _ _ [_,_,_,_,_,_] _ _;refine tN ?_;(with_reducible apply a_.e9 7);(iterate 8 exact rfl);exact ab;exact ab;refine zm ?_;refine Q3 ?_;intro k_ iE;refine s8 ?_;intro g_ b_ fU;refine ax ?_;refine wy ?_;intro g_ b_ eT;(with_reducible apply a_.kI (hf:=hp));(with_reducible assumption);(iterate 3 exact rfl);exact aq;exact ak;(intro x_;exact rfl);exact rfl;exact al;(intro x_;exact al);(intro x_;exact rfl);exact rfl;(intro x_ rL);refine Q1 ?_;refine ya ?_;refine tP ?_)
       have Vs:=hQ.push hj v7 j9 j4 (by rw[← oH];exact IZ) (by rw[← oH];exact JY) x_
       rw[show c0 (SR.cl {τ with cl:=τ.cl} j)=(τ.cl j)[(0:Int).toNat] from oH.symm] at Vs
       exact⟨(fO {τ with cl:=τ.cl,wl:=e_ τ.wl (eX g).toNat ((τ.wl (eX g).toNat).set m (j:Int))} (τ.cl j)[(0:Int).toNat] (j:Int) x_,m+1,i+1),Vs,by show _ - (i+1)<_ - i;omega,fe rfl (by(refine aD ?_;(iterate 5 refine aD ?_);(iterate 2 refine aC ?_);exact trivial)) (by(refine⟨.box _ rfl ?_,?_⟩;(iterate 3 refine aE ?_);refine aD ?_;refine aE ?_;refine aD ?_;(iterate 2 refine aE ?_);(iterate 3 refine aD ?_);refine aE ?_;refine aD ?_;(iterate 2 refine aG ?_);exact trivial;(iterate 3 refine aH ?_);(iterate 7 refine aF ?_);exact trivial)) rfl⟩
  ·obtain rfl:i=(σ.wl (eX g).toNat).length:=by omega
   have hF:=hP.fin
   have MN:=hP.ext
   have IH:=hP.gl.1
   have n4:0≤eX g∧(eX g).toNat<τ.nw:=by have:=gT Cu;omega
   (refine kJ ?_;refine zs ?_;refine kW ?_;refine tW ?_;(with_reducible apply AW.vZ 27 9 (eX g).toNat m);exact rfl;omega;refine aB ?_;refine Si ?_;show a_ .held _ _ _ [_,_,_,_,_,_] _ _;refine Aa ?_;refine DP ?_;refine Q3 ?_;intro k_ iE;refine s8 ?_;intro g_ b_ fU;refine Rm ?_;intro g_ b_;show a_ .held _ _ _ [_] _ _;refine w7 ?_;intro k_ iE;refine Q0 ?_;refine vS ?_;intro g_ b_ eT;(with_reducible apply a_.gQ);(iterate 4 exact rfl);exact ag;(iterate 3 exact rfl);refine ya ?_;refine uH ?_;refine pJ ?_;refine MI ?_;refine zj ?_;refine a_.fw rfl rfl rfl ?_;refine a_.c_ 96 3 8 rfl rfl rfl rfl ?_;(with_reducible apply a_.gy);(iterate 5 exact rfl);exact ag;(iterate 3 exact rfl);(with_reducible assumption);refine Q0 ?_;refine zd ?_)
   have hle:σ.head.toNat<n:=by omega
   exact⟨{τ with hw:=e_ τ.hw (eX g).toNat (jw m (τ.hw (eX g).toNat)),wl:=e_ τ.wl (eX g).toNat ((τ.wl (eX g).toNat).take m),head:=τ.head+1},⟨hF _,MN.EN fun _=> .refl _⟩,by show n - (τ.head+1).toNat<n - σ.head.toNat;rw[ZN];omega,fe rfl (by(exact qH)) (by(refine⟨.box _ rfl ?_,?_⟩;refine Q50 ?_;exact trivial;(iterate 3 refine⟨.fb rfl (by first|rfl|exact fZ _ n4.2 _),?_⟩);(iterate 7 refine aF ?_);exact trivial)) rfl⟩
 ·have Bh:σ.head=((σ.ll 0).length:Int):=by omega
  ((iterate 2 refine zo ?_);(with_reducible apply AW.gb);exact rfl;exact rfl;kernel_rfl;(with_reducible assumption);refine pJ ?_;refine MI ?_;refine wx ?_;refine Gq ?_;refine zs ?_;refine zd ?_;refine tW ?_;refine kJ ?_;refine ku ?_)
  (apply hX (((σ,-1):SR×Int)) (⟨hi,hx,.inl ⟨rfl,Bh⟩⟩);((exact gm.one (.tmp rfl rfl)));((exact qA));((exact Q2));exact rfl)
end Go.Ab
