/- The solver: propagation, walked. -/
import Derived.Test.YtigjjjpcjnifhaaGreatDoorAvS7
import Derived.Test.YtigjjjpcjnifhaaGreatDoorAbZ
import Derived.Test.YtigjjjpcjnifhaaGreatDoorAbL3
set_option linter.unusedSimpArgs false
set_option linter.unusedVariables false
open Nat renaming reduceBEq→di,le_refl→aP
open List renaming getElem_mem→cZ,length_set→cN,getElem_inj→du,getElem_of_mem→dc,length→dQ,length_nil→bV,length_append→bW,length_take→dI,length_drop→cR
open Int renaming toNat_natCast→dt
namespace Go.Ab
open Go Go.Proofs
open Nat (reduceAdd reduceSub)
set_option maxRecDepth 20000
set_option maxHeartbeats 8000000
theorem kC {n:Nat} {s:SR} (v:s.value=kW n (s.ll 0)) (ht:jG n (s.ll 0)) (hn:n≤20000) {x:Int} (hx:Lit n x) {r:Int} (hr:r=if x∈s.ll 0 then 1 else if -x∈s.ll 0 then -1 else 0):og Tryz.prog 48 11 (gV s) [.ptr 0 0,eV x] (gV s) (eV r):=by
 have hl:s.value.length=n+1:=by rw[v,j5]
 have:=M8 s x (by obtain⟨_,_,_⟩:=hx;omega) (by obtain⟨_,_,_⟩:=hx;omega) (by rw[v];exact BM)
 rw[v,IC hx ht,← hr] at this
 exact this
theorem OS {c:List Int} (h:2≤c.length):c0 ((c.set 0 c[1]).set 1 c[0])=c1 c∧c1 ((c.set 0 c[1]).set 1 c[0])=c0 c:=by
 match c,h with
 |a::b::r,_=>exact⟨rfl,rfl⟩
theorem G6 {c:List Int} {k:Nat} (h:2≤k) (hk:k<c.length):c0 ((c.set 1 c[k]).set k (c[1]'(by omega)))=c0 c∧c1 ((c.set 1 c[k]).set k (c[1]'(by omega)))=c[k]:=by
 match c,k,h,hk with
 |a::b::r,k+2,_,hk=>exact⟨rfl,by simp [c1]⟩
 |[a],k+2,_,hk=>simp at hk
attribute [local irreducible] gx AW a_ gb fq AR fz fk fJ fX kp lh eQ
theorem y4 (n:Nat) (s:SR) (hs:fR n s) (MO:s.marks.length≤1000000):tP Tryz.prog 52 11 (gV s) [.ptr 0 0] (fun q:SR×Int=>Ho n s q.1 q.2) (fun q=>gV q.1) (fun q=>eV q.2):=by
 have e1:∀h,(gx s.nw h).length=s.nw:=k8 s.nw
 simp only[gV,gW]
 refine tP.enter (n:=190) Tryz.func52 rfl rfl rfl rfl rfl (by decide) rfl (fun _=>rfl) fun g fD fB=>?_;refine sF ?_
 (refine zq ?_;refine pz ?_;refine AW.block ?_)
 (refine Q0 ?_;apply AW.gN [0,1000] [1,2,3,5,6,8,10] (fun σ:SR=>([]:List (Nat×AV))) (fun σ:SR=>([(0,some (.box [.own 1 3 1 ((σ.value).map encI),.own 2 3 1 ((σ.level).map encI),.own 3 3 1 ((σ.reason).map encI),.pv (.lit (σ.hl 0)),.own 5 3 1 ((σ.marks).map encI),eV (σ.low),.own 6 29 1 (gx σ.nc σ.hc),.own 8 29 1 (gx σ.nw σ.hw),eV (σ.head),eV (σ.added),fh (σ.broken),.own 10 65 3 ((σ.proof).map o_),eV 0,.pv (jI (σ.model)),.pv (jI (σ.core))])),(4,some (.e8 3 (j9 σ.hl σ.ll))),(7,some (.e8 3 (j9 σ.hc σ.cl))),(9,some (.e8 3 (j9 σ.hw σ.wl)))]:List (Nat×Option Ob))) (fun σ:SR=>(fR n σ∧tM s σ)) (fun σ:SR=>n - σ.head.toNat) (s);(conv=>lhs;simp only[Nf.nN,Nf.all,di,reduceAdd,reduceSub]);(all_goals skip))
 ·exact⟨hs,.refl s⟩
 ·exact fp rfl (by(refine aC ?_;refine aC ?_;exact trivial)) (by(refine⟨.box _ rfl ?_,?_⟩;(iterate 3 refine aE ?_);refine aD ?_;refine aE ?_;refine aD ?_;(iterate 2 refine aE ?_);(iterate 3 refine aD ?_);refine aE ?_;refine aD ?_;(iterate 2 refine aG ?_);exact trivial;(iterate 3 refine aH ?_);(iterate 7 refine aF ?_);exact trivial)) rfl
 rintro σ ⟨hi,hx⟩
 have J3:=hi.hd
 have qR:=hi.hn
 have ke:=hi.ix.len
 have zD:=hi.nw
 have z8:=hi.nc
 by_cases fm:σ.head.toNat<(σ.ll 0).length
 ·obtain⟨g,hg⟩:∃g,g= -(σ.ll 0)[σ.head.toNat]:=⟨_,rfl⟩
  have Tz:=hi.ix.xg _ (cZ fm)
  have F2:Lit n g:=by rw[hg];exact⟨by omega,by omega,by omega⟩
  have Xk: -1000000≤g∧g≤1000000:=by obtain⟨_,_,_⟩:=F2;omega
  have Uh:0≤eQ g∧(eQ g).toNat<σ.nw:=by have:=hY F2;omega
  have Z2:=ud.start (g:=g) hi hx (by rw[hg,Int.neg_neg];exact List.getElem?_eq_getElem fm)
  have Aw:=hi.Fj F2
  rw[hg] at Xk Uh Aw
  have DR:=vc _ Xk
  ((iterate 2 refine zo ?_);(with_reducible apply AW.fY);exact rfl;exact rfl;kernel_rfl;(with_reducible assumption);refine oB ?_;refine JF ?_;refine tn ?_;refine Ds ?_;refine zs ?_;refine na ?_;refine Cd ?_;refine zo ?_;refine AW.block ?_;refine zo ?_;(with_reducible apply AW.fY);exact rfl;exact rfl;kernel_rfl;(with_reducible assumption);refine tn ?_;refine C9 ?_;refine oB ?_;refine JF ?_;(with_reducible apply a_.eY 4);(iterate 8 exact rfl);exact ab;exact ab;refine aw ?_;refine a_.neg rfl rfl rfl aJ ?_;refine pz ?_;(with_reducible apply AW.fY);exact rfl;exact rfl;kernel_rfl;(with_reducible assumption);refine CY ?_;refine jf ?_;refine zA (DR) ?_;refine PF ?_;refine a_.jv rfl rfl rfl rfl (fun h_=>by cases h_) aJ ?_;refine kM ?_;refine ka ?_;(with_reducible apply a_.tt 9);(iterate 8 exact rfl);exact ab;exact ab;refine pz ?_;refine ka ?_;refine a_.ny 9 rfl rfl rfl rfl rfl ?_;refine zZ ?_)
  rw[← hg] at*
  (refine Q0 ?_;apply AW.gN [51,3,0,1000] [1,2,3,5,6,8,10] (fun q:SR×Nat×Nat=>([(4,.pv (.lit (q.1.hw (eQ g).toNat))),(5,.pv (.lit (iY q.2.1 (q.1.hw (eQ g).toNat)))),(50,.pv (.lit (q.1.hw (eQ g).toNat))),(52,eV q.2.2)]:List (Nat×AV))) (fun q:SR×Nat×Nat=>([(0,some (.box [.own 1 3 1 ((q.1.value).map encI),.own 2 3 1 ((q.1.level).map encI),.own 3 3 1 ((q.1.reason).map encI),.pv (.lit (q.1.hl 0)),.own 5 3 1 ((q.1.marks).map encI),eV (q.1.low),.own 6 29 1 (gx q.1.nc q.1.hc),.own 8 29 1 (gx q.1.nw q.1.hw),eV (q.1.head),eV (q.1.added),fh (q.1.broken),.own 10 65 3 ((q.1.proof).map o_),eV 0,.pv (jI (q.1.model)),.pv (jI (q.1.core))])),(4,some (.e8 3 (j9 q.1.hl q.1.ll))),(7,some (.e8 3 (j9 q.1.hc q.1.cl))),(9,some (.e8 3 (j9 q.1.hw q.1.wl)))]:List (Nat×Option Ob))) (fun q:SR×Nat×Nat=>ud n s σ.head (σ.wl (eQ g).toNat).length g q.1 q.2.1 q.2.2) (fun q:SR×Nat×Nat=>(σ.wl (eQ g).toNat).length - q.2.2) ((σ,0,0));(conv=>lhs;simp only[Nf.nN,Nf.all,di,reduceAdd,reduceSub]);(all_goals skip))
  ·exact Z2
  ·exact fp rfl (by(refine aD ?_;(iterate 5 refine aD ?_);(iterate 2 refine aC ?_);exact trivial)) (by(refine⟨.box _ rfl ?_,?_⟩;(iterate 3 refine aE ?_);refine aD ?_;refine aE ?_;refine aD ?_;(iterate 2 refine aE ?_);(iterate 3 refine aD ?_);refine aE ?_;refine aD ?_;(iterate 2 refine aG ?_);exact trivial;(iterate 3 refine aH ?_);(iterate 7 refine aF ?_);exact trivial)) rfl
  rintro⟨τ,m,i⟩ hP
  simp only at hP
  refine AW.yT 9 rfl fun UR Wm=>?_
  have hbn:=hP.bnd
  have TD:=hP.mi
  have hiN:=hP.iN
  have Fz:=hP.len
  have UP:=hP.hd
  by_cases DE:i<(σ.wl (eQ g).toNat).length
  ·obtain⟨j,hj,va,PG,IE,h2,iR,jl,kd⟩:=hP.clause DE
   obtain⟨qW,hR⟩:=List.getElem?_eq_some_iff.1 va
   have Xx:(τ.wl (eQ g).toNat)[(i:Int).toNat]'(by simpa using qW)=(j:Int):=by simpa using hR
   have hz:(0:Int).toNat<(τ.cl j).length:=show 0<_ by omega
   by_cases XX:(τ.cl j)[(0:Int).toNat]=g
   ·have Ae:(1:Int).toNat<(τ.cl j).length:=show 1<_ by omega
    have hS1:(1:Int).toNat<(eZ τ.cl j ((τ.cl j).set (0:Int).toNat (τ.cl j)[(1:Int).toNat]) j).length:=by rw[eW,cN];exact Ae
    (refine pZ ?_;refine zm ?_;(with_reducible apply a_.eY 9);(iterate 8 exact rfl);exact ab;exact ab;(focus ((with_reducible apply a_.sq 9);(iterate 5 exact rfl);exact ar;rotate_left;exact ab));refine ur ?_;refine ko ?_;refine H7 ?_;refine jf ?_;refine PF ?_;refine a_.jv rfl rfl rfl rfl (fun h_=>by cases h_) aJ ?_;refine pz ?_;(with_reducible apply AW.vU 10);(rw[Xx]);(rw[dt j]);refine ka ?_;(with_reducible apply a_.eY 7);(iterate 8 exact rfl);exact ab;exact ab;refine ax ?_;refine zm ?_;refine pN ?_;refine zc ?_;refine AW.gv [0,2,3,5,6] [9] rfl (by assumption) aI aI rfl ?_;show a_ .held _ _ _ [_,_,_,_,_] _ _;(iterate 2 refine zm ?_);(with_reducible apply a_.eY 7);(iterate 8 exact rfl);exact ab;exact ab;refine zm ?_;(with_reducible apply a_.eY 7);(iterate 8 exact rfl);exact ab;exact ab;refine Q4 ?_;intro k_ iL;refine Q0 ?_;(refine AR.free 1 aI rfl rfl rfl (by first|exact fS.fH rfl rfl|exact fS.iu rfl rfl|exact fS.nilCheck rfl rfl) ?_);apply AR.cut [1,6,5,3,2,0,4,7];intro oK;(refine AR.gP (i:=4) (j:=7) rfl aI rfl rfl ?_ ?_<;>intro g_ b_ f_);refine ax ?_;refine Q4 ?_;refine AR.fG (i:=7) rfl aI rfl ?_;intro g_ b_ f_;refine ax ?_;refine Q4 ?_;refine aB ?_;exact xk;refine ax ?_;refine Q4 ?_;refine AR.fG (i:=4) rfl aI rfl ?_;intro g_ b_ f_;refine ax ?_;refine Q4 ?_;refine aB ?_;refine Pq ?_;refine⟨.box _ rfl ?_,?_⟩;(iterate 15 refine aC ?_);exact trivial;(iterate 3 refine⟨.e8 rfl rfl,?_⟩);(iterate 7 refine aF ?_);exact trivial;refine AR.iw [8] aI aI aI aI ?_;intro g_ b_;show a_ .held _ _ _ [_] _ _;(with_reducible apply a_.eY 7);(iterate 8 exact rfl);exact ab;exact ab;refine Q4 ?_;intro k_ iL;refine Q0 ?_;refine Ja ?_;intro g_ b_ fe;(with_reducible apply a_.kG 7);(iterate 7 exact rfl);exact ab;refine jS ?_;refine AR.iI (i:=10) rfl aI rfl aI ?_;intro g_ b_ fe;(with_reducible apply a_.eY 7);(iterate 8 exact rfl);exact ab;exact ab;refine Q4 ?_;refine DN ?_;intro g_ b_ fe;(with_reducible apply a_.kG 7);(iterate 7 exact rfl);exact ab;refine r9 ?_;refine zo ?_;refine AW.lq 12 ?_)
    obtain⟨CL,TP⟩:∃CL,CL=eZ τ.cl j (((τ.cl j).set (0:Int).toNat ((τ.cl j)[(1:Int).toNat]'(show 1<_ by omega))).set (1:Int).toNat ((τ.cl j)[(0:Int).toNat]'(show 0<_ by omega))):=⟨_,rfl⟩
    obtain⟨w1,w2⟩:=OS h2
    have hQ:ud n s σ.head (σ.wl (eQ g).toNat).length g {τ with cl:=CL} m i:=by
     rw[TP]
     exact hP.swap hj IE (oH (i:=0) (k:=1) aJ aJ) w1 w2
    have jB:c1 (CL j)=g:=by
     rw[TP,eW]
     exact w2.trans ((fy hz).trans XX)
    (conv=>rhs;rw[jr,eW,← TP])
    refine Stop.go ?_
    obtain⟨je,Nx,Kd⟩:=hQ.inv.cls j hj
    have je:2≤(CL j).length:=je
    have Nx:(CL j).Nodup:=Nx
    have Kd:∀x∈CL j,Lit n x:=Kd
    have hq3:(CL j).length≤2*n+2:=hQ.inv.CR hj
    have Gt:=hQ.gl.2
    have kj:τ.value=kW n (τ.ll 0):=hQ.inv.val
    have rz:jG n (τ.ll 0):=hQ.inv.ix
    have Ir:(0:Int).toNat<(CL j).length:=show 0<_ by omega
    have Je:(1:Int).toNat<(CL j).length:=show 1<_ by omega
    have nv:(CL j)[(0:Int).toNat]=c0 (CL j):=(fy Ir).symm
    have Ae:(CL j)[(1:Int).toNat]=c1 (CL j):=(fy Je).symm
    have uR:=Kd _ (cZ Ir)
    by_cases F9:(CL j)[(0:Int).toNat]∈τ.ll 0
    ·have uD:=kC (s:={τ with cl:=CL}) (r:=1) kj rz qR uR (if_pos F9).symm
     simp only[gV,gW] at uD
     (refine zo ?_;refine Pf ?_;show a_ .held _ _ _ [_,_,_,_,_] _ _;refine tk ?_;(with_reducible apply a_.eY 7);(iterate 8 exact rfl);exact ab;exact ab;refine Q4 ?_;intro k_ iL;refine C2 ?_;intro g_ b_ f_;refine ax ?_;refine wK ?_;intro g_ b_ fe;refine Ck ?_;refine xi ?_;intro g_ b_ fe;refine a_.gtr rfl rfl rfl rfl rfl ?_;refine Gv ?_;refine ko ?_;(iterate 2 refine zm ?_);(with_reducible apply a_.nr);(iterate 5 exact rfl);exact ag;exact rfl;exact rfl;refine Q0 ?_;(with_reducible apply a_.js 9);exact rfl;exact rfl;exact ah;(iterate 6 exact rfl);exact ab;refine Q0 ?_;refine kM ?_;refine Ei ?_;refine rj ?_)
     refine⟨({τ with cl:=CL,wl:=eZ τ.wl (eQ g).toNat ((τ.wl (eQ g).toNat).set m (j:Int))},m+1,i+1),hQ.keep hj va jB (by rw[← nv];exact F9),by show _ - (i+1)<_ - i;omega,fp rfl (by(refine DD ?_;(iterate 5 refine aD ?_);exact Bs)) (by(exact Ro)) rfl⟩
    ·obtain⟨r0,I2⟩:∃r:Int,r=if -(CL j)[(0:Int).toNat]∈τ.ll 0 then -1 else 0:=⟨_,rfl⟩
     have U6: -1≤r0∧r0≤0:=by rw[I2];split<;>omega
     have uD:=kC (s:={τ with cl:=CL}) (r:=r0) kj rz qR uR (by rw[if_neg F9];exact I2)
     simp only[gV,gW] at uD
     (refine zo ?_;refine Pf ?_;show a_ .held _ _ _ [_,_,_,_,_] _ _;refine tk ?_;(with_reducible apply a_.eY 7);(iterate 8 exact rfl);exact ab;exact ab;refine Q4 ?_;intro k_ iL;refine C2 ?_;intro g_ b_ f_;refine ax ?_;refine wK ?_;intro g_ b_ fe;refine Ck ?_;refine xi ?_;intro g_ b_ fe;refine a_.gtr rfl rfl rfl rfl rfl ?_;refine wH ?_;refine uP ?_;refine ko ?_;refine pz ?_;refine AW.block ?_)
     (refine Q0 ?_;apply AW.gN [8,7,6,4,5,50,52,51,3,0,1000] [0,1,2,3,4,5,6,7,8,9,10] (fun k:Nat=>([(9,eV k)]:List (Nat×AV))) (fun k:Nat=>([]:List (Nat×Option Ob))) (fun k:Nat=>(2≤k∧k≤(CL j).length∧∀p (hp:p<(CL j).length),2≤p→p<k→ -(CL j)[p]∈τ.ll 0)) (fun k:Nat=>(CL j).length - k) (2);(conv=>lhs;simp only[Nf.nN,Nf.all,di,reduceAdd,reduceSub]);(all_goals skip))
     ·exact⟨aP _,je,fun p _ h1 h2=>by omega⟩
     ·exact Xl
     rintro k ⟨rE,JU,Sx⟩
     by_cases hk:k<(CL j).length
     ·have Rk:(k:Int).toNat<(CL j).length:=by omega
      have Cj:=Kd _ (cZ Rk)
      by_cases yR: -(CL j)[(k:Int).toNat]∈τ.ll 0
      ·have Bv:=kC (s:={τ with cl:=CL}) (r:= -1) kj rz qR Cj (by rw[if_neg fun hh=>rz.nJ hh yR,if_pos yR])
       simp only[gV,gW] at Bv
       (refine MP ?_;show a_ .held _ _ _ [_,_,_,_,_,_,_,_,_,_,_] _ _;refine La ?_;(with_reducible apply a_.eY 7);(iterate 8 exact rfl);exact ab;exact ab;refine Q4 ?_;intro k_ iL;refine zJ ?_;intro g_ b_ f_;refine zt ?_;refine ax ?_;refine Q4 ?_;refine DZ ?_;intro g_ b_ fe;refine KB ?_;intro g_ b_ fe;refine zt ?_;refine zs ?_;refine Q4 ?_;refine uS ?_;intro g_ b_ fe;refine zT ?_;refine Gv ?_;refine Cd ?_;refine AW.block ?_;refine qs ?_;refine zm ?_;refine zj ?_;refine za ?_;refine E_ ?_)
       exact⟨k+1,⟨by omega,by omega,fun p hp h1 h2=>by
        by_cases e:p=k
        ·subst e;exact yR
        ·exact Sx p hp h1 aJ⟩,by omega,fp rfl (by(refine aD ?_;(iterate 9 refine aD ?_);(iterate 2 refine aC ?_);exact trivial)) (by(refine⟨.box _ rfl ?_,?_⟩;(iterate 3 refine aE ?_);refine aD ?_;refine aE ?_;refine aD ?_;(iterate 2 refine aE ?_);(iterate 3 refine aD ?_);refine aE ?_;refine aD ?_;(iterate 2 refine aG ?_);exact trivial;(iterate 3 refine aF ?_);refine aH ?_;(iterate 2 refine aF ?_);refine aH ?_;refine aF ?_;refine aH ?_;refine aF ?_;exact trivial)) rfl⟩
      ·obtain⟨rk,Sq⟩:∃r:Int,r=if (CL j)[(k:Int).toNat]∈τ.ll 0 then 1 else if -(CL j)[(k:Int).toNat]∈τ.ll 0 then -1 else 0:=⟨_,rfl⟩
       have VA:0≤rk∧rk≤1:=by rw[Sq,if_neg yR];split<;>omega
       have Bv:=kC (s:={τ with cl:=CL}) (r:=rk) kj rz qR Cj Sq
       simp only[gV,gW] at Bv
       obtain⟨D,hD⟩:∃D,D=((CL j).set (1:Int).toNat (CL j)[(k:Int).toNat]).set (k:Int).toNat (CL j)[(1:Int).toNat]:=⟨_,rfl⟩
       have X7:(k:Int).toNat<(eZ CL j ((CL j).set (1:Int).toNat (CL j)[(k:Int).toNat]) j).length:=by rw[eW,cN];exact Rk
       obtain⟨d0,d1⟩:=G6 rE hk
       have MY:D=((CL j).set 1 (CL j)[k]).set k ((CL j)[1]'(by omega)):=hD
       have EM:lk (CL j) D:=by rw[MY];exact oH (i:=1) (k:=k) aJ hk
       rw[← MY] at d0 d1
       have Ov:(1:Int).toNat<(eZ CL j D j).length:=by rw[eW,EM.len];exact Je
       obtain⟨y,hy⟩:∃y,y=(eZ CL j D j)[(1:Int).toNat]:=⟨_,rfl⟩
       have HN:y=(CL j)[k]:=by
        rw[hy,← d1]
        have:∀(L:List Int) (hL:(1:Int).toNat<L.length),L=D→L[(1:Int).toNat]=c1 D:=fun L hL e=>by subst e;exact(fy hL).symm
        exact this _ Ov (eW _ _ _)
       have wY:Lit n y:=by rw[HN];exact Cj
       have GJ:y≠g:=fun e=>yR (by rw[show(CL j)[(k:Int).toNat]=y from HN.symm,e];exact Gt)
       have Nd: -1000000≤y∧y≤1000000:=by obtain⟨_,_,_⟩:=wY;omega
       have DQ:0≤eQ y∧(eQ y).toNat<τ.nw:=by have:=hY wY;omega
       have fW:(eQ g).toNat≠(eQ y).toNat:=fun q=>GJ (gU wY F2 q.symm)
       have Nw:(τ.wl (eQ y).toNat).length≤τ.nc:=by
        have:=hQ.inv.Fj wY
        simp only[ft _ _ (Ne.symm fW)] at this
        exact this
       have hM:=hQ.move (y:=y) hj va IE jB EM d0 (d1.trans HN.symm) GJ (fun e=>by
        rw[HN,show c0 (CL j)=(CL j)[0] from fy aJ] at e
        have:=(du Nx (h₀:=hk) (h₁:=by omega)).1 e
        omega) (by rw[HN];exact yR)
       rw[hy] at Nd DQ Nw
       have Rb:=vc _ Nd
       (refine MP ?_;show a_ .held _ _ _ [_,_,_,_,_,_,_,_,_,_,_] _ _;refine La ?_;(with_reducible apply a_.eY 7);(iterate 8 exact rfl);exact ab;exact ab;refine Q4 ?_;intro k_ iL;refine zJ ?_;intro g_ b_ f_;refine zt ?_;refine ax ?_;refine Q4 ?_;refine DZ ?_;intro g_ b_ fe;refine KB ?_;intro g_ b_ fe;refine zt ?_;refine zs ?_;refine Q4 ?_;refine uS ?_;intro g_ b_ fe;refine zT ?_;refine wH ?_;refine zk ?_;refine D5 ?_;refine zo ?_;refine ko ?_;refine Ni ?_;refine na ?_;refine zo ?_;(with_reducible apply AW.Mv 18 30 [0,3,4,5,7,8,9,50,51,52,1000]);exact rfl;refine Qa ?_;show a_ .held _ _ _ [_,_,_,_,_,_] _ _;(iterate 3 refine zm ?_);(with_reducible apply a_.eY 7);(iterate 8 exact rfl);exact ab;exact ab;refine zm ?_;(with_reducible apply a_.eY 7);(iterate 8 exact rfl);exact ab;exact ab;refine Q4 ?_;intro k_ iL;refine Q0 ?_;(refine AR.free 1 aI rfl rfl rfl (by first|exact fS.fH rfl rfl|exact fS.iu rfl rfl|exact fS.nilCheck rfl rfl) ?_);(refine AR.free 2 aI rfl rfl rfl (by first|exact fS.fH rfl rfl|exact fS.iu rfl rfl|exact fS.nilCheck rfl rfl) ?_);apply AR.cut [2,1,8,7,5,4,3,0,6,9];intro oK;(refine AR.gP (i:=6) (j:=9) rfl aI rfl rfl ?_ ?_<;>intro g_ b_ f_);refine ax ?_;refine Mn ?_;intro g_ b_ f_;refine ax ?_;refine Q4 ?_;refine aB ?_;exact xk;refine ax ?_;refine Q4 ?_;refine AR.fG (i:=6) rfl aI rfl ?_;intro g_ b_ f_;refine ax ?_;refine Q4 ?_;refine aB ?_;refine AR.meet oK aI (fun g_=>fp rfl ?_ ?_ rfl);(iterate 21 refine aC ?_);exact trivial;exact OM;refine AR.iw [10] aI aI aI aI ?_;intro g_ b_;show a_ .held _ _ _ [_] _ _;(with_reducible apply a_.eY 7);(iterate 8 exact rfl);exact ab;exact ab;refine Q4 ?_;intro k_ iL;refine Q0 ?_;refine DN ?_;intro g_ b_ fe;(with_reducible apply a_.kG 7);(iterate 7 exact rfl);exact ab;refine jS ?_;refine DZ ?_;intro g_ b_ fe;(with_reducible apply a_.eY 7);(iterate 8 exact rfl);exact ab;exact ab;refine Q4 ?_;refine xD ?_;intro g_ b_ fe;(with_reducible apply a_.kG 7);(iterate 7 exact rfl);exact ab;refine r9 ?_;(with_reducible apply AW.vU 19);(rw[jr]);(rw[eW]);(rw[← hD]);refine zo ?_;refine AW.gv [0,1,2,3,4,5,8,9,10,11,12,13,18] [22] rfl (by assumption) aI aI rfl ?_;show a_ .held _ _ _ [_,_,_,_,_,_,_,_,_,_,_,_,_] _ _;refine CY ?_;refine jf ?_;(with_reducible apply a_.eY 7);(iterate 8 exact rfl);exact ab;exact ab;refine CY ?_;refine jf ?_;(with_reducible apply a_.eY 7);(iterate 8 exact rfl);exact ab;exact ab;refine zm ?_;refine Q4 ?_;intro k_ iL;refine Q0 ?_;apply AR.cut [18,13,12,11,10,9,8,5,4,3,2,1,0,6,7,14,15,16,17,19];intro oK;apply AR.cut [18,13,12,11,10,9,8,5,4,3,2,1,0,6,7,14,15,16,19];intro tS;apply AR.cut [18,13,12,11,10,9,8,5,4,3,2,1,0,6,7,14,15,19];intro sd;apply AR.cut [18,13,12,11,10,9,8,5,4,3,2,1,0,6,7,14,19];intro sU;apply AR.cut [18,13,12,11,10,9,8,5,4,3,2,1,0,6,7,14];intro JN;apply AR.cut [18,13,12,11,10,9,8,5,4,3,2,1,0,6,7,19];intro Jd;apply AR.cut [18,13,12,11,10,9,8,5,4,3,2,1,0,6,14,19];intro KT;apply AR.cut [18,13,12,11,10,9,8,5,4,3,2,1,0,6,19];intro Hw;apply AR.cut [18,13,12,11,10,9,8,5,4,3,2,1,0,14,19];intro I5;apply AR.cut [18,13,12,11,10,9,8,5,4,3,2,1,0,6,14];intro GZ;(refine AR.s9 (i:=6) (j:=14) (m:=19) rfl aI rfl rfl rfl ?_ ?_ ?_<;>intro g_ b_ f_);refine ax ?_;refine Q4 ?_;(refine AR.s9 (i:=7) (j:=14) (m:=19) rfl aI rfl rfl rfl ?_ ?_ ?_<;>intro g_ b_ f_);refine uJ ?_;(refine AR.gP (i:=14) (j:=19) rfl aI rfl rfl ?_ ?_<;>intro g_ b_ f_);refine ax ?_;refine Q4 ?_;refine aB ?_;refine u9 ?_;exact AR.perm aI JN;(with_reducible apply a_.nr);(iterate 5 exact rfl);exact ag;exact rfl;exact rfl;refine jS ?_;refine aB ?_;refine u9 ?_;exact AR.perm aI Jd;refine ax ?_;refine Q4 ?_;refine aB ?_;refine u9 ?_;exact AR.perm aI GZ;(with_reducible apply a_.nr);(iterate 5 exact rfl);exact ag;exact rfl;exact rfl;refine jS ?_;refine aB ?_;refine u9 ?_;exact AR.perm aI Hw;refine ax ?_;refine Q4 ?_;(refine AR.gP (i:=6) (j:=19) rfl aI rfl rfl ?_ ?_<;>intro g_ b_ f_);refine ax ?_;refine Q4 ?_;refine aB ?_;refine AR.meet GZ aI (fun g_=>fp rfl ?_ ?_ rfl);exact FF;exact Ot;(with_reducible apply a_.nr);(iterate 5 exact rfl);exact ag;exact rfl;exact rfl;refine jS ?_;refine aB ?_;refine u9 ?_;exact AR.perm aI I5;(with_reducible apply a_.nr);(iterate 5 exact rfl);exact ag;exact rfl;exact rfl;refine jS ?_;(refine AR.gP (i:=6) (j:=14) rfl aI rfl rfl ?_ ?_<;>intro g_ b_ f_);refine ax ?_;refine Q4 ?_;refine aB ?_;refine AR.meet Hw aI (fun g_=>fp rfl ?_ ?_ rfl);exact FF;exact rh;refine ax ?_;refine Q4 ?_;refine aB ?_;refine AR.meet I5 aI (fun g_=>fp rfl ?_ ?_ rfl);exact FF;exact rh;(refine AR.gP (i:=7) (j:=19) rfl aI rfl rfl ?_ ?_<;>intro g_ b_ f_);refine uJ ?_;refine aB ?_;refine AR.meet JN aI (fun g_=>fp rfl ?_ ?_ rfl);(iterate 39 refine aC ?_);exact trivial;exact Ot;(with_reducible apply a_.nr);(iterate 5 exact rfl);exact ag;exact rfl;exact rfl;refine jS ?_;refine aB ?_;refine u9 ?_;exact AR.perm aI KT;refine AR.fG (i:=6) rfl aI rfl ?_;intro g_ b_ f_;refine ax ?_;refine Q4 ?_;refine aB ?_;exact Ml;(refine AR.gP (i:=7) (j:=14) rfl aI rfl rfl ?_ ?_<;>intro g_ b_ f_);refine uJ ?_;refine aB ?_;refine AR.meet Jd aI (fun g_=>fp rfl ?_ ?_ rfl);(iterate 39 refine aC ?_);exact trivial;exact rh;refine ax ?_;refine Q4 ?_;refine aB ?_;exact Ml;refine AR.fG (i:=7) rfl aI rfl ?_;intro g_ b_ f_;refine uJ ?_;refine aB ?_;refine u9 ?_;exact AR.perm aI sU;refine AR.fG (i:=14) rfl aI rfl ?_;intro g_ b_ f_;refine ax ?_;refine Q4 ?_;refine aB ?_;exact Ln;(refine AR.gP (i:=15) (j:=19) rfl aI rfl rfl ?_ ?_<;>intro g_ b_ f_);refine uJ ?_;(refine AR.gP (i:=16) (j:=19) rfl aI rfl rfl ?_ ?_<;>intro g_ b_ f_);refine um ?_;(refine AR.gP (i:=17) (j:=19) rfl aI rfl rfl ?_ ?_<;>intro g_ b_ f_);refine a_.jv rfl rfl rfl rfl (fun h_=>by cases h_) aJ ?_;refine Q4 ?_;refine AR.fG (i:=19) rfl aI rfl ?_;intro g_ b_ f_;(with_reducible apply a_.nr);(iterate 5 exact rfl);exact ag;exact rfl;exact rfl;refine jS ?_;refine aB ?_;exact xk;(with_reducible apply a_.nr);(iterate 5 exact rfl);exact ag;exact rfl;exact rfl;refine jS ?_;refine aB ?_;exact Gq;(with_reducible apply a_.nr);(iterate 5 exact rfl);exact ag;exact rfl;exact rfl;refine jS ?_;refine aB ?_;refine u9 ?_;exact AR.perm aI sd;(with_reducible apply a_.nr);(iterate 5 exact rfl);exact ag;exact rfl;exact rfl;refine jS ?_;refine aB ?_;exact Ln;refine AR.fG (i:=15) rfl aI rfl ?_;intro g_ b_ f_;refine uJ ?_;refine aB ?_;refine AR.meet sd aI (fun g_=>fp rfl ?_ ?_ rfl);(iterate 41 refine aC ?_);exact trivial;exact rh;refine AR.fG (i:=16) rfl aI rfl ?_;intro g_ b_ f_;refine um ?_;refine aB ?_;refine AR.meet tS aI (fun g_=>fp rfl ?_ ?_ rfl);(iterate 42 refine aC ?_);exact trivial;exact rh;refine AR.fG (i:=17) rfl aI rfl ?_;intro g_ b_ f_;refine a_.jv rfl rfl rfl rfl (fun h_=>by cases h_) aJ ?_;refine Q4 ?_;refine aB ?_;refine AR.meet oK aI (fun g_=>fp rfl ?_ ?_ rfl);(iterate 43 refine aC ?_);exact trivial;exact rh;refine AR.fG (i:=20) rfl aI rfl ?_;intro g_ b_ f_;(with_reducible apply a_.lO 9);exact rfl;exact rfl;exact ah;(iterate 8 exact rfl);omega;(intro v_ Jc);refine jS ?_;refine AR.iw [21] aI aI aI aI ?_;intro g_ b_;show a_ .held _ _ _ [_] _ _;refine um ?_;intro k_ iL;refine Q0 ?_;refine AR.iI (i:=22) rfl aI rfl aI ?_;intro g_ b_ fe;(with_reducible apply a_.gu);(iterate 4 exact rfl);exact ag;(iterate 3 exact rfl);refine r9 ?_;refine Ei ?_;refine Ba ?_)
       rw[← hy] at*
       refine⟨({τ with cl:=eZ CL j D,hw:=eZ τ.hw (eQ y).toNat v_,wl:=eZ τ.wl (eQ y).toNat (τ.wl (eQ y).toNat++ [(j:Int)])},m,i+1),hM _,by show _ - (i+1)<_ - i;omega,fp rfl (by(exact S6)) (by(exact RT)) rfl⟩
     ·obtain rfl:k=(CL j).length:=by omega
      have jO:∀x∈CL j,x≠c0 (CL j)→ -x∈τ.ll 0:=fun x hx fW=>by
       obtain⟨p,hp,rfl⟩:=dc hx
       by_cases e0:p=0
       ·subst e0;exact absurd (fy hp).symm fW
       ·by_cases e1:p=1
        ·subst e1
         rw[show(CL j)[1]=g from(fy hp).symm.trans jB];exact Gt
        ·exact Sx p hp aJ hp
      by_cases JP: -(CL j)[(0:Int).toNat]∈τ.ll 0
      ·have vl:=kC (s:={τ with cl:=CL,wl:=eZ τ.wl (eQ g).toNat ((τ.wl (eQ g).toNat).set m (j:Int))}) (r:= -1) kj rz qR uR (by rw[if_neg F9,if_pos JP])
       simp only[gV,gW] at vl
       (refine MP ?_;show a_ .held _ _ _ [_,_,_,_,_,_,_,_,_,_,_] _ _;refine Ni ?_;refine zm ?_;refine Kl ?_;intro k_ iL;refine zJ ?_;intro g_ b_ f_;refine GU ?_;refine DZ ?_;intro g_ b_ fe;refine GU ?_;refine xD ?_;intro g_ b_ fe;refine GU ?_;refine uS ?_;intro g_ b_ fe;refine Kf ?_;(with_reducible apply a_.nr);(iterate 5 exact rfl);exact ag;exact rfl;exact rfl;refine Q0 ?_;(with_reducible apply a_.js 9);exact rfl;exact rfl;exact ah;(iterate 6 exact rfl);exact ab;refine KJ ?_;show a_ .held _ _ _ [_,_,_,_,_] _ _;refine tk ?_;(with_reducible apply a_.eY 7);(iterate 8 exact rfl);exact ab;exact ab;refine Q4 ?_;intro k_ iL;refine C2 ?_;intro g_ b_ f_;refine ax ?_;refine wK ?_;intro g_ b_ fe;refine zX (vl) ?_;refine mB ?_;refine xi ?_;intro g_ b_ fe;refine zs ?_;refine Gv ?_;refine ko ?_;(iterate 3 refine zm ?_);refine zj ?_;(with_reducible apply a_.wm 9);(iterate 8 exact rfl);exact ab;exact ab;(with_reducible apply a_.o5 9 (m+1) ((i:Int)+1).toNat);(iterate 8 exact rfl);omega;(simp only[eW,cN];omega);(intro h_;have:=congrArg dQ h_;simp only[eW,cN,bV] at this;omega);refine aB ?_;refine kM ?_;refine AW.lq 23 ?_)
       refine Stop.go ?_
       refine AW.rm 9 (eQ g).toNat (m+1+((τ.wl (eQ g).toNat).length - ((i:Int)+1).toNat)) rfl ?_ ?_
       ·simp only[eW,bW,dI,cR,cN];omega
       (conv=>rhs;simp only[eW,jr,cN])
       have GP:=Ek TD qW hR
       have lT:0≤eQ g∧(eQ g).toNat<τ.nw:=by have:=hY F2;omega
       have We:∀x∈CL j,-x∈τ.ll 0:=fun x hx=>by
        by_cases e:x=c0 (CL j)
        ·rw[e,← nv];exact JP
        ·exact jO x hx e
       (conv=>rhs;rw[GP])
       (refine zo ?_;refine Ow ?_;show a_ .held _ _ _ [_,_,_,_,_,_] _ _;refine K5 ?_;intro k_ iL;refine C2 ?_;intro g_ b_ f_;refine Pd ?_;intro g_ b_;show a_ .held _ _ _ [_] _ _;refine um ?_;intro k_ iL;refine Q0 ?_;refine G9 ?_;intro g_ b_ fe;(with_reducible apply a_.gu);(iterate 4 exact rfl);exact ag;(iterate 3 exact rfl);refine r9 ?_;refine ta ?_;refine xv ?_;(iterate 2 refine wu ?_))
       (apply gL ((({τ with cl:=CL,hw:=eZ τ.hw (eQ g).toNat (iY (m+1+((τ.wl (eQ g).toNat).length - ((i:Int)+1).toNat)) (τ.hw (eQ g).toNat)),wl:=eZ τ.wl (eQ g).toNat ((τ.wl (eQ g).toNat).take m++(τ.wl (eQ g).toNat).drop i)},(j:Int)):SR×Int)) (⟨hQ.inv.hw _,hQ.ext.DK fun _=> .refl _,.inr ⟨j,hj,rfl,We⟩⟩);((exact gk.one (.tmp rfl rfl)));((refine⟨.fg (by first|rfl|exact fN _ lT.2 _),?_⟩;exact ye));((exact Rn));exact rfl)
      ·have vl:=kC (s:={τ with cl:=CL,wl:=eZ τ.wl (eQ g).toNat ((τ.wl (eQ g).toNat).set m (j:Int))}) (r:=0) kj rz qR uR (by rw[if_neg F9,if_neg JP])
       simp only[gV,gW] at vl
       have hp:=qa {τ with cl:=CL,wl:=eZ τ.wl (eQ g).toNat ((τ.wl (eQ g).toNat).set m (j:Int))} (CL j)[(0:Int).toNat] (j:Int) (by obtain⟨_,_,_⟩:=uR;omega) (by obtain⟨_,_,_⟩:=uR;show _<(τ.value.length:Int)∧_<(τ.value.length:Int);omega) (by show τ.level.length=τ.value.length;omega) (by show τ.reason.length=τ.value.length;omega) (by show(τ.ll 0).length≤_;omega) (by show τ.marks.length≤_;rw[hP.ext.marks];exact MO)
       simp only[gV,gW] at hp
       (refine MP ?_;show a_ .held _ _ _ [_,_,_,_,_,_,_,_,_,_,_] _ _;refine Ni ?_;refine zm ?_;refine Kl ?_;intro k_ iL;refine zJ ?_;intro g_ b_ f_;refine GU ?_;refine DZ ?_;intro g_ b_ fe;refine GU ?_;refine xD ?_;intro g_ b_ fe;refine GU ?_;refine uS ?_;intro g_ b_ fe;refine Kf ?_;(with_reducible apply a_.nr);(iterate 5 exact rfl);exact ag;exact rfl;exact rfl;refine Q0 ?_;(with_reducible apply a_.js 9);exact rfl;exact rfl;exact ah;(iterate 6 exact rfl);exact ab;refine KJ ?_;show a_ .held _ _ _ [_,_,_,_,_] _ _;refine tk ?_;(with_reducible apply a_.eY 7);(iterate 8 exact rfl);exact ab;exact ab;refine Q4 ?_;intro k_ iL;refine C2 ?_;intro g_ b_ f_;refine ax ?_;refine wK ?_;intro g_ b_ fe;refine zX (vl) ?_;refine mB ?_;refine xi ?_;intro g_ b_ fe;refine zs ?_;refine wH ?_;refine GS ?_;refine AW.gv [0,1,2,3,4,6] [7] rfl (by assumption) aI aI rfl ?_;show a_ .held _ _ _ [_,_,_,_,_,_] _ _;refine tk ?_;(with_reducible apply a_.eY 7);(iterate 8 exact rfl);exact ab;exact ab;refine zm ?_;refine Q4 ?_;intro k_ iL;refine C2 ?_;intro g_ b_ f_;refine ax ?_;refine xi ?_;intro g_ b_ fe;(with_reducible apply a_.jU (hf:=hp));(with_reducible assumption);(iterate 3 exact rfl);exact aq;exact ak;(intro x_;exact rfl);exact rfl;exact al;(intro x_;exact al);(intro x_;exact rfl);exact rfl;(intro x_ pq);refine mB ?_;refine FM ?_;refine Gp ?_;refine Ba ?_)
       have R2:=hQ.push hj va jB jO (by rw[← nv];exact F9) (by rw[← nv];exact JP) x_
       rw[show c0 (SR.cl {τ with cl:=CL} j)=(CL j)[(0:Int).toNat] from nv.symm] at R2
       exact⟨(fF {τ with cl:=CL,wl:=eZ τ.wl (eQ g).toNat ((τ.wl (eQ g).toNat).set m (j:Int))} (CL j)[(0:Int).toNat] (j:Int) x_,m+1,i+1),R2,by show _ - (i+1)<_ - i;omega,fp rfl (by(refine aD ?_;(iterate 5 refine aD ?_);(iterate 2 refine aC ?_);exact trivial)) (by(refine⟨.box _ rfl ?_,?_⟩;(iterate 3 refine aE ?_);refine aD ?_;refine aE ?_;refine aD ?_;(iterate 2 refine aE ?_);(iterate 3 refine aD ?_);refine aE ?_;refine aD ?_;(iterate 2 refine aG ?_);exact trivial;(iterate 3 refine aH ?_);(iterate 7 refine aF ?_);exact trivial)) rfl⟩
   ·(refine pZ ?_;refine zm ?_;(with_reducible apply a_.eY 9);(iterate 8 exact rfl);exact ab;exact ab;(focus ((with_reducible apply a_.sq 9);(iterate 5 exact rfl);exact ar;rotate_left;exact ab));refine ur ?_;refine ko ?_;refine H7 ?_;refine jf ?_;refine PF ?_;refine a_.jv rfl rfl rfl rfl (fun h_=>by cases h_) aJ ?_;refine pz ?_;(with_reducible apply AW.vU 10);(rw[Xx]);(rw[dt j]);refine ka ?_;(with_reducible apply a_.eY 7);(iterate 8 exact rfl);exact ab;exact ab;refine ax ?_;refine zm ?_;refine pN ?_;refine uP ?_;refine zo ?_;refine AW.lq 12 ?_)
    have hQ:ud n s σ.head (σ.wl (eQ g).toNat).length g {τ with cl:=τ.cl} m i:=hP
    have jB:c1 (τ.cl j)=g:=PG.resolve_left fun e=>XX ((fy hz).symm.trans e)
    refine Stop.go ?_
    obtain⟨je,Nx,Kd⟩:=hQ.inv.cls j hj
    have je:2≤(τ.cl j).length:=je
    have Nx:(τ.cl j).Nodup:=Nx
    have Kd:∀x∈τ.cl j,Lit n x:=Kd
    have hq3:(τ.cl j).length≤2*n+2:=hQ.inv.CR hj
    have Gt:=hQ.gl.2
    have kj:τ.value=kW n (τ.ll 0):=hQ.inv.val
    have rz:jG n (τ.ll 0):=hQ.inv.ix
    have Ir:(0:Int).toNat<(τ.cl j).length:=show 0<_ by omega
    have Je:(1:Int).toNat<(τ.cl j).length:=show 1<_ by omega
    have nv:(τ.cl j)[(0:Int).toNat]=c0 (τ.cl j):=(fy Ir).symm
    have Ae:(τ.cl j)[(1:Int).toNat]=c1 (τ.cl j):=(fy Je).symm
    have uR:=Kd _ (cZ Ir)
    by_cases F9:(τ.cl j)[(0:Int).toNat]∈τ.ll 0
    ·have uD:=kC (s:={τ with cl:=τ.cl}) (r:=1) kj rz qR uR (if_pos F9).symm
     simp only[gV,gW] at uD
     (refine zo ?_;refine Pf ?_;show a_ .held _ _ _ [_,_,_,_,_] _ _;refine tk ?_;(with_reducible apply a_.eY 7);(iterate 8 exact rfl);exact ab;exact ab;refine Q4 ?_;intro k_ iL;refine C2 ?_;intro g_ b_ f_;refine ax ?_;refine wK ?_;intro g_ b_ fe;refine Ck ?_;refine xi ?_;intro g_ b_ fe;refine a_.gtr rfl rfl rfl rfl rfl ?_;refine Gv ?_;refine ko ?_;(iterate 2 refine zm ?_);(with_reducible apply a_.nr);(iterate 5 exact rfl);exact ag;exact rfl;exact rfl;refine Q0 ?_;(with_reducible apply a_.js 9);exact rfl;exact rfl;exact ah;(iterate 6 exact rfl);exact ab;refine Q0 ?_;refine kM ?_;refine Ei ?_;refine rj ?_)
     refine⟨({τ with cl:=τ.cl,wl:=eZ τ.wl (eQ g).toNat ((τ.wl (eQ g).toNat).set m (j:Int))},m+1,i+1),hQ.keep hj va jB (by rw[← nv];exact F9),by show _ - (i+1)<_ - i;omega,fp rfl (by(refine DD ?_;(iterate 5 refine aD ?_);exact Bs)) (by(exact Ro)) rfl⟩
    ·obtain⟨r0,I2⟩:∃r:Int,r=if -(τ.cl j)[(0:Int).toNat]∈τ.ll 0 then -1 else 0:=⟨_,rfl⟩
     have U6: -1≤r0∧r0≤0:=by rw[I2];split<;>omega
     have uD:=kC (s:={τ with cl:=τ.cl}) (r:=r0) kj rz qR uR (by rw[if_neg F9];exact I2)
     simp only[gV,gW] at uD
     (refine zo ?_;refine Pf ?_;show a_ .held _ _ _ [_,_,_,_,_] _ _;refine tk ?_;(with_reducible apply a_.eY 7);(iterate 8 exact rfl);exact ab;exact ab;refine Q4 ?_;intro k_ iL;refine C2 ?_;intro g_ b_ f_;refine ax ?_;refine wK ?_;intro g_ b_ fe;refine Ck ?_;refine xi ?_;intro g_ b_ fe;refine a_.gtr rfl rfl rfl rfl rfl ?_;refine wH ?_;refine uP ?_;refine ko ?_;refine pz ?_;refine AW.block ?_)
     (refine Q0 ?_;apply AW.gN [8,7,6,4,5,50,52,51,3,0,1000] [0,1,2,3,4,5,6,7,8,9,10] (fun k:Nat=>([(9,eV k)]:List (Nat×AV))) (fun k:Nat=>([]:List (Nat×Option Ob))) (fun k:Nat=>(2≤k∧k≤(τ.cl j).length∧∀p (hp:p<(τ.cl j).length),2≤p→p<k→ -(τ.cl j)[p]∈τ.ll 0)) (fun k:Nat=>(τ.cl j).length - k) (2);(conv=>lhs;simp only[Nf.nN,Nf.all,di,reduceAdd,reduceSub]);(all_goals skip))
     ·exact⟨aP _,je,fun p _ h1 h2=>by omega⟩
     ·exact Xl
     rintro k ⟨rE,JU,Sx⟩
     by_cases hk:k<(τ.cl j).length
     ·have Rk:(k:Int).toNat<(τ.cl j).length:=by omega
      have Cj:=Kd _ (cZ Rk)
      by_cases yR: -(τ.cl j)[(k:Int).toNat]∈τ.ll 0
      ·have Bv:=kC (s:={τ with cl:=τ.cl}) (r:= -1) kj rz qR Cj (by rw[if_neg fun hh=>rz.nJ hh yR,if_pos yR])
       simp only[gV,gW] at Bv
       (refine MP ?_;show a_ .held _ _ _ [_,_,_,_,_,_,_,_,_,_,_] _ _;refine La ?_;(with_reducible apply a_.eY 7);(iterate 8 exact rfl);exact ab;exact ab;refine Q4 ?_;intro k_ iL;refine zJ ?_;intro g_ b_ f_;refine zt ?_;refine ax ?_;refine Q4 ?_;refine DZ ?_;intro g_ b_ fe;refine KB ?_;intro g_ b_ fe;refine zt ?_;refine zs ?_;refine Q4 ?_;refine uS ?_;intro g_ b_ fe;refine zT ?_;refine Gv ?_;refine Cd ?_;refine AW.block ?_;refine qs ?_;refine zm ?_;refine zj ?_;refine za ?_;refine E_ ?_)
       exact⟨k+1,⟨by omega,by omega,fun p hp h1 h2=>by
        by_cases e:p=k
        ·subst e;exact yR
        ·exact Sx p hp h1 aJ⟩,by omega,fp rfl (by(refine aD ?_;(iterate 9 refine aD ?_);(iterate 2 refine aC ?_);exact trivial)) (by(refine⟨.box _ rfl ?_,?_⟩;(iterate 3 refine aE ?_);refine aD ?_;refine aE ?_;refine aD ?_;(iterate 2 refine aE ?_);(iterate 3 refine aD ?_);refine aE ?_;refine aD ?_;(iterate 2 refine aG ?_);exact trivial;(iterate 3 refine aF ?_);refine aH ?_;(iterate 2 refine aF ?_);refine aH ?_;refine aF ?_;refine aH ?_;refine aF ?_;exact trivial)) rfl⟩
      ·obtain⟨rk,Sq⟩:∃r:Int,r=if (τ.cl j)[(k:Int).toNat]∈τ.ll 0 then 1 else if -(τ.cl j)[(k:Int).toNat]∈τ.ll 0 then -1 else 0:=⟨_,rfl⟩
       have VA:0≤rk∧rk≤1:=by rw[Sq,if_neg yR];split<;>omega
       have Bv:=kC (s:={τ with cl:=τ.cl}) (r:=rk) kj rz qR Cj Sq
       simp only[gV,gW] at Bv
       obtain⟨D,hD⟩:∃D,D=((τ.cl j).set (1:Int).toNat (τ.cl j)[(k:Int).toNat]).set (k:Int).toNat (τ.cl j)[(1:Int).toNat]:=⟨_,rfl⟩
       have X7:(k:Int).toNat<(eZ τ.cl j ((τ.cl j).set (1:Int).toNat (τ.cl j)[(k:Int).toNat]) j).length:=by rw[eW,cN];exact Rk
       obtain⟨d0,d1⟩:=G6 rE hk
       have MY:D=((τ.cl j).set 1 (τ.cl j)[k]).set k ((τ.cl j)[1]'(by omega)):=hD
       have EM:lk (τ.cl j) D:=by rw[MY];exact oH (i:=1) (k:=k) aJ hk
       rw[← MY] at d0 d1
       have Ov:(1:Int).toNat<(eZ τ.cl j D j).length:=by rw[eW,EM.len];exact Je
       obtain⟨y,hy⟩:∃y,y=(eZ τ.cl j D j)[(1:Int).toNat]:=⟨_,rfl⟩
       have HN:y=(τ.cl j)[k]:=by
        rw[hy,← d1]
        have:∀(L:List Int) (hL:(1:Int).toNat<L.length),L=D→L[(1:Int).toNat]=c1 D:=fun L hL e=>by subst e;exact(fy hL).symm
        exact this _ Ov (eW _ _ _)
       have wY:Lit n y:=by rw[HN];exact Cj
       have GJ:y≠g:=fun e=>yR (by rw[show(τ.cl j)[(k:Int).toNat]=y from HN.symm,e];exact Gt)
       have Nd: -1000000≤y∧y≤1000000:=by obtain⟨_,_,_⟩:=wY;omega
       have DQ:0≤eQ y∧(eQ y).toNat<τ.nw:=by have:=hY wY;omega
       have fW:(eQ g).toNat≠(eQ y).toNat:=fun q=>GJ (gU wY F2 q.symm)
       have Nw:(τ.wl (eQ y).toNat).length≤τ.nc:=by
        have:=hQ.inv.Fj wY
        simp only[ft _ _ (Ne.symm fW)] at this
        exact this
       have hM:=hQ.move (y:=y) hj va IE jB EM d0 (d1.trans HN.symm) GJ (fun e=>by
        rw[HN,show c0 (τ.cl j)=(τ.cl j)[0] from fy aJ] at e
        have:=(du Nx (h₀:=hk) (h₁:=by omega)).1 e
        omega) (by rw[HN];exact yR)
       rw[hy] at Nd DQ Nw
       have Rb:=vc _ Nd
       (refine MP ?_;show a_ .held _ _ _ [_,_,_,_,_,_,_,_,_,_,_] _ _;refine La ?_;(with_reducible apply a_.eY 7);(iterate 8 exact rfl);exact ab;exact ab;refine Q4 ?_;intro k_ iL;refine zJ ?_;intro g_ b_ f_;refine zt ?_;refine ax ?_;refine Q4 ?_;refine DZ ?_;intro g_ b_ fe;refine KB ?_;intro g_ b_ fe;refine zt ?_;refine zs ?_;refine Q4 ?_;refine uS ?_;intro g_ b_ fe;refine zT ?_;refine wH ?_;refine zk ?_;refine D5 ?_;refine zo ?_;refine ko ?_;refine Ni ?_;refine na ?_;refine zo ?_;(with_reducible apply AW.Mv 18 30 [0,3,4,5,7,8,9,50,51,52,1000]);exact rfl;refine Qa ?_;show a_ .held _ _ _ [_,_,_,_,_,_] _ _;(iterate 3 refine zm ?_);(with_reducible apply a_.eY 7);(iterate 8 exact rfl);exact ab;exact ab;refine zm ?_;(with_reducible apply a_.eY 7);(iterate 8 exact rfl);exact ab;exact ab;refine Q4 ?_;intro k_ iL;refine Q0 ?_;(refine AR.free 1 aI rfl rfl rfl (by first|exact fS.fH rfl rfl|exact fS.iu rfl rfl|exact fS.nilCheck rfl rfl) ?_);(refine AR.free 2 aI rfl rfl rfl (by first|exact fS.fH rfl rfl|exact fS.iu rfl rfl|exact fS.nilCheck rfl rfl) ?_);apply AR.cut [2,1,8,7,5,4,3,0,6,9];intro oK;(refine AR.gP (i:=6) (j:=9) rfl aI rfl rfl ?_ ?_<;>intro g_ b_ f_);refine ax ?_;refine Mn ?_;intro g_ b_ f_;refine ax ?_;refine Q4 ?_;refine aB ?_;exact xk;refine ax ?_;refine Q4 ?_;refine AR.fG (i:=6) rfl aI rfl ?_;intro g_ b_ f_;refine ax ?_;refine Q4 ?_;refine aB ?_;refine AR.meet oK aI (fun g_=>fp rfl ?_ ?_ rfl);(iterate 21 refine aC ?_);exact trivial;exact OM;refine AR.iw [10] aI aI aI aI ?_;intro g_ b_;show a_ .held _ _ _ [_] _ _;(with_reducible apply a_.eY 7);(iterate 8 exact rfl);exact ab;exact ab;refine Q4 ?_;intro k_ iL;refine Q0 ?_;refine DN ?_;intro g_ b_ fe;(with_reducible apply a_.kG 7);(iterate 7 exact rfl);exact ab;refine jS ?_;refine DZ ?_;intro g_ b_ fe;(with_reducible apply a_.eY 7);(iterate 8 exact rfl);exact ab;exact ab;refine Q4 ?_;refine xD ?_;intro g_ b_ fe;(with_reducible apply a_.kG 7);(iterate 7 exact rfl);exact ab;refine r9 ?_;(with_reducible apply AW.vU 19);(rw[jr]);(rw[eW]);(rw[← hD]);refine zo ?_;refine AW.gv [0,1,2,3,4,5,8,9,10,11,12,13,18] [22] rfl (by assumption) aI aI rfl ?_;show a_ .held _ _ _ [_,_,_,_,_,_,_,_,_,_,_,_,_] _ _;refine CY ?_;refine jf ?_;(with_reducible apply a_.eY 7);(iterate 8 exact rfl);exact ab;exact ab;refine CY ?_;refine jf ?_;(with_reducible apply a_.eY 7);(iterate 8 exact rfl);exact ab;exact ab;refine zm ?_;refine Q4 ?_;intro k_ iL;refine Q0 ?_;apply AR.cut [18,13,12,11,10,9,8,5,4,3,2,1,0,6,7,14,15,16,17,19];intro oK;apply AR.cut [18,13,12,11,10,9,8,5,4,3,2,1,0,6,7,14,15,16,19];intro tS;apply AR.cut [18,13,12,11,10,9,8,5,4,3,2,1,0,6,7,14,15,19];intro sd;apply AR.cut [18,13,12,11,10,9,8,5,4,3,2,1,0,6,7,14,19];intro sU;apply AR.cut [18,13,12,11,10,9,8,5,4,3,2,1,0,6,7,14];intro JN;apply AR.cut [18,13,12,11,10,9,8,5,4,3,2,1,0,6,7,19];intro Jd;apply AR.cut [18,13,12,11,10,9,8,5,4,3,2,1,0,6,14,19];intro KT;apply AR.cut [18,13,12,11,10,9,8,5,4,3,2,1,0,6,19];intro Hw;apply AR.cut [18,13,12,11,10,9,8,5,4,3,2,1,0,14,19];intro I5;apply AR.cut [18,13,12,11,10,9,8,5,4,3,2,1,0,6,14];intro GZ;(refine AR.s9 (i:=6) (j:=14) (m:=19) rfl aI rfl rfl rfl ?_ ?_ ?_<;>intro g_ b_ f_);refine ax ?_;refine Q4 ?_;(refine AR.s9 (i:=7) (j:=14) (m:=19) rfl aI rfl rfl rfl ?_ ?_ ?_<;>intro g_ b_ f_);refine uJ ?_;(refine AR.gP (i:=14) (j:=19) rfl aI rfl rfl ?_ ?_<;>intro g_ b_ f_);refine ax ?_;refine Q4 ?_;refine aB ?_;refine u9 ?_;exact AR.perm aI JN;(with_reducible apply a_.nr);(iterate 5 exact rfl);exact ag;exact rfl;exact rfl;refine jS ?_;refine aB ?_;refine u9 ?_;exact AR.perm aI Jd;refine ax ?_;refine Q4 ?_;refine aB ?_;refine u9 ?_;exact AR.perm aI GZ;(with_reducible apply a_.nr);(iterate 5 exact rfl);exact ag;exact rfl;exact rfl;refine jS ?_;refine aB ?_;refine u9 ?_;exact AR.perm aI Hw;refine ax ?_;refine Q4 ?_;(refine AR.gP (i:=6) (j:=19) rfl aI rfl rfl ?_ ?_<;>intro g_ b_ f_);refine ax ?_;refine Q4 ?_;refine aB ?_;refine AR.meet GZ aI (fun g_=>fp rfl ?_ ?_ rfl);exact FF;exact Ot;(with_reducible apply a_.nr);(iterate 5 exact rfl);exact ag;exact rfl;exact rfl;refine jS ?_;refine aB ?_;refine u9 ?_;exact AR.perm aI I5;(with_reducible apply a_.nr);(iterate 5 exact rfl);exact ag;exact rfl;exact rfl;refine jS ?_;(refine AR.gP (i:=6) (j:=14) rfl aI rfl rfl ?_ ?_<;>intro g_ b_ f_);refine ax ?_;refine Q4 ?_;refine aB ?_;refine AR.meet Hw aI (fun g_=>fp rfl ?_ ?_ rfl);exact FF;exact rh;refine ax ?_;refine Q4 ?_;refine aB ?_;refine AR.meet I5 aI (fun g_=>fp rfl ?_ ?_ rfl);exact FF;exact rh;(refine AR.gP (i:=7) (j:=19) rfl aI rfl rfl ?_ ?_<;>intro g_ b_ f_);refine uJ ?_;refine aB ?_;refine AR.meet JN aI (fun g_=>fp rfl ?_ ?_ rfl);(iterate 39 refine aC ?_);exact trivial;exact Ot;(with_reducible apply a_.nr);(iterate 5 exact rfl);exact ag;exact rfl;exact rfl;refine jS ?_;refine aB ?_;refine u9 ?_;exact AR.perm aI KT;refine AR.fG (i:=6) rfl aI rfl ?_;intro g_ b_ f_;refine ax ?_;refine Q4 ?_;refine aB ?_;exact Ml;(refine AR.gP (i:=7) (j:=14) rfl aI rfl rfl ?_ ?_<;>intro g_ b_ f_);refine uJ ?_;refine aB ?_;refine AR.meet Jd aI (fun g_=>fp rfl ?_ ?_ rfl);(iterate 39 refine aC ?_);exact trivial;exact rh;refine ax ?_;refine Q4 ?_;refine aB ?_;exact Ml;refine AR.fG (i:=7) rfl aI rfl ?_;intro g_ b_ f_;refine uJ ?_;refine aB ?_;refine u9 ?_;exact AR.perm aI sU;refine AR.fG (i:=14) rfl aI rfl ?_;intro g_ b_ f_;refine ax ?_;refine Q4 ?_;refine aB ?_;exact Ln;(refine AR.gP (i:=15) (j:=19) rfl aI rfl rfl ?_ ?_<;>intro g_ b_ f_);refine uJ ?_;(refine AR.gP (i:=16) (j:=19) rfl aI rfl rfl ?_ ?_<;>intro g_ b_ f_);refine um ?_;(refine AR.gP (i:=17) (j:=19) rfl aI rfl rfl ?_ ?_<;>intro g_ b_ f_);refine a_.jv rfl rfl rfl rfl (fun h_=>by cases h_) aJ ?_;refine Q4 ?_;refine AR.fG (i:=19) rfl aI rfl ?_;intro g_ b_ f_;(with_reducible apply a_.nr);(iterate 5 exact rfl);exact ag;exact rfl;exact rfl;refine jS ?_;refine aB ?_;exact xk;(with_reducible apply a_.nr);(iterate 5 exact rfl);exact ag;exact rfl;exact rfl;refine jS ?_;refine aB ?_;exact Gq;(with_reducible apply a_.nr);(iterate 5 exact rfl);exact ag;exact rfl;exact rfl;refine jS ?_;refine aB ?_;refine u9 ?_;exact AR.perm aI sd;(with_reducible apply a_.nr);(iterate 5 exact rfl);exact ag;exact rfl;exact rfl;refine jS ?_;refine aB ?_;exact Ln;refine AR.fG (i:=15) rfl aI rfl ?_;intro g_ b_ f_;refine uJ ?_;refine aB ?_;refine AR.meet sd aI (fun g_=>fp rfl ?_ ?_ rfl);(iterate 41 refine aC ?_);exact trivial;exact rh;refine AR.fG (i:=16) rfl aI rfl ?_;intro g_ b_ f_;refine um ?_;refine aB ?_;refine AR.meet tS aI (fun g_=>fp rfl ?_ ?_ rfl);(iterate 42 refine aC ?_);exact trivial;exact rh;refine AR.fG (i:=17) rfl aI rfl ?_;intro g_ b_ f_;refine a_.jv rfl rfl rfl rfl (fun h_=>by cases h_) aJ ?_;refine Q4 ?_;refine aB ?_;refine AR.meet oK aI (fun g_=>fp rfl ?_ ?_ rfl);(iterate 43 refine aC ?_);exact trivial;exact rh;refine AR.fG (i:=20) rfl aI rfl ?_;intro g_ b_ f_;(with_reducible apply a_.lO 9);exact rfl;exact rfl;exact ah;(iterate 8 exact rfl);omega;(intro v_ Jc);refine jS ?_;refine AR.iw [21] aI aI aI aI ?_;intro g_ b_;show a_ .held _ _ _ [_] _ _;refine um ?_;intro k_ iL;refine Q0 ?_;refine AR.iI (i:=22) rfl aI rfl aI ?_;intro g_ b_ fe;(with_reducible apply a_.gu);(iterate 4 exact rfl);exact ag;(iterate 3 exact rfl);refine r9 ?_;refine Ei ?_;refine Ba ?_)
       rw[← hy] at*
       refine⟨({τ with cl:=eZ τ.cl j D,hw:=eZ τ.hw (eQ y).toNat v_,wl:=eZ τ.wl (eQ y).toNat (τ.wl (eQ y).toNat++ [(j:Int)])},m,i+1),hM _,by show _ - (i+1)<_ - i;omega,fp rfl (by(exact S6)) (by(exact RT)) rfl⟩
     ·obtain rfl:k=(τ.cl j).length:=by omega
      have jO:∀x∈τ.cl j,x≠c0 (τ.cl j)→ -x∈τ.ll 0:=fun x hx fW=>by
       obtain⟨p,hp,rfl⟩:=dc hx
       by_cases e0:p=0
       ·subst e0;exact absurd (fy hp).symm fW
       ·by_cases e1:p=1
        ·subst e1
         rw[show(τ.cl j)[1]=g from(fy hp).symm.trans jB];exact Gt
        ·exact Sx p hp aJ hp
      by_cases JP: -(τ.cl j)[(0:Int).toNat]∈τ.ll 0
      ·have vl:=kC (s:={τ with cl:=τ.cl,wl:=eZ τ.wl (eQ g).toNat ((τ.wl (eQ g).toNat).set m (j:Int))}) (r:= -1) kj rz qR uR (by rw[if_neg F9,if_pos JP])
       simp only[gV,gW] at vl
       (refine MP ?_;show a_ .held _ _ _ [_,_,_,_,_,_,_,_,_,_,_] _ _;refine Ni ?_;refine zm ?_;refine Kl ?_;intro k_ iL;refine zJ ?_;intro g_ b_ f_;refine GU ?_;refine DZ ?_;intro g_ b_ fe;refine GU ?_;refine xD ?_;intro g_ b_ fe;refine GU ?_;refine uS ?_;intro g_ b_ fe;refine Kf ?_;(with_reducible apply a_.nr);(iterate 5 exact rfl);exact ag;exact rfl;exact rfl;refine Q0 ?_;(with_reducible apply a_.js 9);exact rfl;exact rfl;exact ah;(iterate 6 exact rfl);exact ab;refine KJ ?_;show a_ .held _ _ _ [_,_,_,_,_] _ _;refine tk ?_;(with_reducible apply a_.eY 7);(iterate 8 exact rfl);exact ab;exact ab;refine Q4 ?_;intro k_ iL;refine C2 ?_;intro g_ b_ f_;refine ax ?_;refine wK ?_;intro g_ b_ fe;refine zX (vl) ?_;refine mB ?_;refine xi ?_;intro g_ b_ fe;refine zs ?_;refine Gv ?_;refine ko ?_;(iterate 3 refine zm ?_);refine zj ?_;(with_reducible apply a_.wm 9);(iterate 8 exact rfl);exact ab;exact ab;(with_reducible apply a_.o5 9 (m+1) ((i:Int)+1).toNat);(iterate 8 exact rfl);omega;(simp only[eW,cN];omega);(intro h_;have:=congrArg dQ h_;simp only[eW,cN,bV] at this;omega);refine aB ?_;refine kM ?_;refine AW.lq 23 ?_)
       refine Stop.go ?_
       refine AW.rm 9 (eQ g).toNat (m+1+((τ.wl (eQ g).toNat).length - ((i:Int)+1).toNat)) rfl ?_ ?_
       ·simp only[eW,bW,dI,cR,cN];omega
       (conv=>rhs;simp only[eW,jr,cN])
       have GP:=Ek TD qW hR
       have lT:0≤eQ g∧(eQ g).toNat<τ.nw:=by have:=hY F2;omega
       have We:∀x∈τ.cl j,-x∈τ.ll 0:=fun x hx=>by
        by_cases e:x=c0 (τ.cl j)
        ·rw[e,← nv];exact JP
        ·exact jO x hx e
       (conv=>rhs;rw[GP])
       (refine zo ?_;refine Ow ?_;show a_ .held _ _ _ [_,_,_,_,_,_] _ _;refine K5 ?_;intro k_ iL;refine C2 ?_;intro g_ b_ f_;refine Pd ?_;intro g_ b_;show a_ .held _ _ _ [_] _ _;refine um ?_;intro k_ iL;refine Q0 ?_;refine G9 ?_;intro g_ b_ fe;(with_reducible apply a_.gu);(iterate 4 exact rfl);exact ag;(iterate 3 exact rfl);refine r9 ?_;refine ta ?_;refine xv ?_;(iterate 2 refine wu ?_))
       (apply gL ((({τ with cl:=τ.cl,hw:=eZ τ.hw (eQ g).toNat (iY (m+1+((τ.wl (eQ g).toNat).length - ((i:Int)+1).toNat)) (τ.hw (eQ g).toNat)),wl:=eZ τ.wl (eQ g).toNat ((τ.wl (eQ g).toNat).take m++(τ.wl (eQ g).toNat).drop i)},(j:Int)):SR×Int)) (⟨hQ.inv.hw _,hQ.ext.DK fun _=> .refl _,.inr ⟨j,hj,rfl,We⟩⟩);((exact gk.one (.tmp rfl rfl)));((refine⟨.fg (by first|rfl|exact fN _ lT.2 _),?_⟩;exact ye));((exact Rn));exact rfl)
      ·have vl:=kC (s:={τ with cl:=τ.cl,wl:=eZ τ.wl (eQ g).toNat ((τ.wl (eQ g).toNat).set m (j:Int))}) (r:=0) kj rz qR uR (by rw[if_neg F9,if_neg JP])
       simp only[gV,gW] at vl
       have hp:=qa {τ with cl:=τ.cl,wl:=eZ τ.wl (eQ g).toNat ((τ.wl (eQ g).toNat).set m (j:Int))} (τ.cl j)[(0:Int).toNat] (j:Int) (by obtain⟨_,_,_⟩:=uR;omega) (by obtain⟨_,_,_⟩:=uR;show _<(τ.value.length:Int)∧_<(τ.value.length:Int);omega) (by show τ.level.length=τ.value.length;omega) (by show τ.reason.length=τ.value.length;omega) (by show(τ.ll 0).length≤_;omega) (by show τ.marks.length≤_;rw[hP.ext.marks];exact MO)
       simp only[gV,gW] at hp
       (refine MP ?_;show a_ .held _ _ _ [_,_,_,_,_,_,_,_,_,_,_] _ _;refine Ni ?_;refine zm ?_;refine Kl ?_;intro k_ iL;refine zJ ?_;intro g_ b_ f_;refine GU ?_;refine DZ ?_;intro g_ b_ fe;refine GU ?_;refine xD ?_;intro g_ b_ fe;refine GU ?_;refine uS ?_;intro g_ b_ fe;refine Kf ?_;(with_reducible apply a_.nr);(iterate 5 exact rfl);exact ag;exact rfl;exact rfl;refine Q0 ?_;(with_reducible apply a_.js 9);exact rfl;exact rfl;exact ah;(iterate 6 exact rfl);exact ab;refine KJ ?_;show a_ .held _ _ _ [_,_,_,_,_] _ _;refine tk ?_;(with_reducible apply a_.eY 7);(iterate 8 exact rfl);exact ab;exact ab;refine Q4 ?_;intro k_ iL;refine C2 ?_;intro g_ b_ f_;refine ax ?_;refine wK ?_;intro g_ b_ fe;refine zX (vl) ?_;refine mB ?_;refine xi ?_;intro g_ b_ fe;refine zs ?_;refine wH ?_;refine GS ?_;refine AW.gv [0,1,2,3,4,6] [7] rfl (by assumption) aI aI rfl ?_;show a_ .held _ _ _ [_,_,_,_,_,_] _ _;refine tk ?_;(with_reducible apply a_.eY 7);(iterate 8 exact rfl);exact ab;exact ab;refine zm ?_;refine Q4 ?_;intro k_ iL;refine C2 ?_;intro g_ b_ f_;refine ax ?_;refine xi ?_;intro g_ b_ fe;(with_reducible apply a_.jU (hf:=hp));(with_reducible assumption);(iterate 3 exact rfl);exact aq;exact ak;(intro x_;exact rfl);exact rfl;exact al;(intro x_;exact al);(intro x_;exact rfl);exact rfl;(intro x_ pq);refine mB ?_;refine FM ?_;refine Gp ?_;refine Ba ?_)
       have R2:=hQ.push hj va jB jO (by rw[← nv];exact F9) (by rw[← nv];exact JP) x_
       rw[show c0 (SR.cl {τ with cl:=τ.cl} j)=(τ.cl j)[(0:Int).toNat] from nv.symm] at R2
       exact⟨(fF {τ with cl:=τ.cl,wl:=eZ τ.wl (eQ g).toNat ((τ.wl (eQ g).toNat).set m (j:Int))} (τ.cl j)[(0:Int).toNat] (j:Int) x_,m+1,i+1),R2,by show _ - (i+1)<_ - i;omega,fp rfl (by(refine aD ?_;(iterate 5 refine aD ?_);(iterate 2 refine aC ?_);exact trivial)) (by(refine⟨.box _ rfl ?_,?_⟩;(iterate 3 refine aE ?_);refine aD ?_;refine aE ?_;refine aD ?_;(iterate 2 refine aE ?_);(iterate 3 refine aD ?_);refine aE ?_;refine aD ?_;(iterate 2 refine aG ?_);exact trivial;(iterate 3 refine aH ?_);(iterate 7 refine aF ?_);exact trivial)) rfl⟩
  ·obtain rfl:i=(σ.wl (eQ g).toNat).length:=by omega
   have hF:=hP.fin
   have J0:=hP.ext
   have Gt:=hP.gl.1
   have lT:0≤eQ g∧(eQ g).toNat<τ.nw:=by have:=hY F2;omega
   (refine ko ?_;refine P8 ?_;(with_reducible apply AW.ug 27 9 (eQ g).toNat m);exact rfl;omega;refine aB ?_;refine Ow ?_;show a_ .held _ _ _ [_,_,_,_,_,_] _ _;refine K5 ?_;intro k_ iL;refine C2 ?_;intro g_ b_ f_;refine Pd ?_;intro g_ b_;show a_ .held _ _ _ [_] _ _;refine um ?_;intro k_ iL;refine Q0 ?_;refine G9 ?_;intro g_ b_ fe;(with_reducible apply a_.gu);(iterate 4 exact rfl);exact ag;(iterate 3 exact rfl);refine Q0 ?_;refine FM ?_;refine Gp ?_;refine oB ?_;refine JF ?_;refine zj ?_;refine a_.fj rfl rfl rfl ?_;refine a_.c_ 94 3 8 rfl rfl rfl rfl ?_;(with_reducible apply a_.gn);(iterate 5 exact rfl);exact ag;(iterate 3 exact rfl);(with_reducible assumption);refine mw ?_)
   have hle:σ.head.toNat<n:=by omega
   exact⟨{τ with hw:=eZ τ.hw (eQ g).toNat (iY m (τ.hw (eQ g).toNat)),wl:=eZ τ.wl (eQ g).toNat ((τ.wl (eQ g).toNat).take m),head:=τ.head+1},⟨hF _,J0.DK fun _=> .refl _⟩,by show n - (τ.head+1).toNat<n - σ.head.toNat;rw[UP];omega,fp rfl (by(exact qS)) (by(refine WT ?_;(iterate 3 refine⟨.e8 rfl (by first|rfl|exact fN _ lT.2 _),?_⟩);(iterate 7 refine aF ?_);exact trivial)) rfl⟩
 ·have yL:σ.head=((σ.ll 0).length:Int):=by omega
  ((iterate 2 refine zo ?_);(with_reducible apply AW.fY);exact rfl;exact rfl;kernel_rfl;(with_reducible assumption);refine oB ?_;refine JF ?_;refine tn ?_;refine Ds ?_;refine zs ?_;refine zd ?_;refine zk ?_;refine D5 ?_;refine ko ?_;refine kQ ?_)
  (apply gL (((σ,-1):SR×Int)) (⟨hi,hx,.inl ⟨rfl,yL⟩⟩);((exact gk.one (.tmp rfl rfl)));((exact Al));((exact Q2));exact rfl)
end Go.Ab
