/- The solver: propagation, walked. -/
import Derived.Test.YtigjjjpcjnifhaaGreatDoorAvS7
import Derived.Test.YtigjjjpcjnifhaaGreatDoorAbZ
import Derived.Test.YtigjjjpcjnifhaaGreatDoorAbL3
set_option linter.unusedSimpArgs false
set_option linter.unusedVariables false
open Nat renaming reduceBEq→di,le_refl→aP
open List renaming getElem_mem→cZ,length_set→cM,getElem_inj→du,getElem_of_mem→dc,length→dW,length_nil→bU,length_append→bV,length_take→dI,length_drop→cQ
open Int renaming toNat_natCast→dt
namespace Go.Ab
open Go Go.Proofs
open Nat (reduceAdd reduceSub)
set_option maxRecDepth 20000
set_option maxHeartbeats 8000000
theorem kP {n:Nat} {s:SR} (v:s.value=lf n (s.ll 0)) (ht:j1 n (s.ll 0)) (hn:n≤20000) {x:Int} (hx:Lit n x) {r:Int} (hr:r=if x∈s.ll 0 then 1 else if -x∈s.ll 0 then -1 else 0):mg Tryz.prog 48 11 (hX s) [.ptr 0 0,e7 x] (hX s) (e7 r):=by
 have hl:s.value.length=n+1:=by rw[v,ki]
 have:=OC s x (by obtain⟨_,_,_⟩:=hx;omega) (by obtain⟨_,_,_⟩:=hx;omega) (by rw[v];exact B7)
 rw[v,Jk hx ht,← hr] at this
 exact this
theorem Pw {c:List Int} (h:2≤c.length):c0 ((c.set 0 c[1]).set 1 c[0])=c1 c∧c1 ((c.set 0 c[1]).set 1 c[0])=c0 c:=by
 match c,h with
 |a::b::r,_=>exact⟨rfl,rfl⟩
theorem Ik {c:List Int} {k:Nat} (h:2≤k) (hk:k<c.length):c0 ((c.set 1 c[k]).set k (c[1]'(by omega)))=c0 c∧c1 ((c.set 1 c[k]).set k (c[1]'(by omega)))=c[k]:=by
 match c,k,h,hk with
 |a::b::r,k+2,_,hk=>exact⟨rfl,by simp [c1]⟩
 |[a],k+2,_,hk=>simp at hk
attribute [local irreducible] gC AW a_ ga ft AR fB fp fG fU jw lA eW
theorem Al (n:Nat) (s:SR) (hs:fW n s) (OA:s.marks.length≤1000000):uo Tryz.prog 52 11 (hX s) [.ptr 0 0] (fun q:SR×Int=>I4 n s q.1 q.2) (fun q=>hX q.1) (fun q=>e7 q.2):=by
 have e1:∀h,(gC s.nw h).length=s.nw:=k9 s.nw
 simp only[hX,hZ]
 refine uo.enter (n:=190) Tryz.func52 rfl rfl rfl rfl rfl (by decide) rfl (fun _=>rfl) fun g fE fD=>?_;refine qz ?_
 (refine zq ?_;refine rD ?_;refine AW.block ?_)
 (refine J0 ?_;apply AW.gP [0,1000] [1,2,3,5,6,8,10] (fun σ:SR=>([]:List (Nat×AV))) (fun σ:SR=>([(0,some (.box [.own 1 3 1 ((σ.value).map encI),.own 2 3 1 ((σ.level).map encI),.own 3 3 1 ((σ.reason).map encI),.pv (.lit (σ.hl 0)),.own 5 3 1 ((σ.marks).map encI),e7 (σ.low),.own 6 29 1 (gC σ.nc σ.hc),.own 8 29 1 (gC σ.nw σ.hw),e7 (σ.head),e7 (σ.added),fu (σ.broken),.own 10 65 3 ((σ.proof).map mI),e7 0,.pv (jX (σ.model)),.pv (jX (σ.core))])),(4,some (.ff 3 (kl σ.hl σ.ll))),(7,some (.ff 3 (kl σ.hc σ.cl))),(9,some (.ff 3 (kl σ.hw σ.wl)))]:List (Nat×Option Ob))) (fun σ:SR=>(fW n σ∧uk s σ)) (fun σ:SR=>n - σ.head.toNat) (s);(conv=>lhs;simp only[Nf.n7,Nf.all,di,reduceAdd,reduceSub]);(all_goals skip))
 ·exact⟨hs,.refl s⟩
 ·exact fy rfl (by(refine aC ?_;refine aC ?_;exact trivial)) (by(refine⟨.box _ rfl ?_,?_⟩;(iterate 3 refine aE ?_);refine aD ?_;refine aE ?_;refine aD ?_;(iterate 2 refine aE ?_);(iterate 3 refine aD ?_);refine aE ?_;refine aD ?_;(iterate 2 refine aG ?_);exact trivial;(iterate 3 refine aH ?_);(iterate 7 refine aF ?_);exact trivial)) rfl
 rintro σ ⟨hi,hx⟩
 have Ll:=hi.hd
 have rU:=hi.hn
 have kz:=hi.iK.len
 have zE:=hi.nw
 have yh:=hi.nc
 by_cases fx:σ.head.toNat<(σ.ll 0).length
 ·obtain⟨g,hg⟩:∃g,g= -(σ.ll 0)[σ.head.toNat]:=⟨_,rfl⟩
  have U7:=hi.iK.xz _ (cZ fx)
  have KW:Lit n g:=by rw[hg];exact⟨by omega,by omega,by omega⟩
  have O6: -1000000≤g∧g≤1000000:=by obtain⟨_,_,_⟩:=KW;omega
  have WC:0≤eW g∧(eW g).toNat<σ.nw:=by have:=ix KW;omega
  have Rp:=ux.start (g:=g) hi hx (by rw[hg,Int.neg_neg];exact List.getElem?_eq_getElem fx)
  have A5:=hi.Hr KW
  rw[hg] at O6 WC A5
  have EK:=vq _ O6
  ((iterate 2 refine zo ?_);(with_reducible apply AW.gk);exact rfl;exact rfl;kernel_rfl;(with_reducible assumption);refine oF ?_;refine IG ?_;refine Eb ?_;refine Gk ?_;refine zs ?_;refine lq ?_;refine F7 ?_;refine zo ?_;(with_reducible apply AW.gk);exact rfl;exact rfl;kernel_rfl;(with_reducible assumption);refine Eb ?_;refine zb ?_;refine oF ?_;refine IG ?_;(with_reducible apply a_.fa 4);(iterate 8 exact rfl);exact ab;exact ab;refine aw ?_;refine a_.neg rfl rfl rfl aJ ?_;refine rD ?_;(with_reducible apply AW.gk);exact rfl;exact rfl;kernel_rfl;(with_reducible assumption);refine xP ?_;refine iL ?_;refine zA (EK) ?_;refine Ru ?_;refine a_.jI rfl rfl rfl rfl (fun h_=>by cases h_) aJ ?_;refine kh ?_;refine mj ?_;(with_reducible apply a_.ub 9);(iterate 8 exact rfl);exact ab;exact ab;refine rW ?_;refine a_.nL 9 rfl rfl rfl rfl rfl ?_;refine CX ?_)
  rw[← hg] at*
  (refine J0 ?_;apply AW.gP [51,3,0,1000] [1,2,3,5,6,8,10] (fun q:SR×Nat×Nat=>([(4,.pv (.lit (q.1.hw (eW g).toNat))),(5,.pv (.lit (jn q.2.1 (q.1.hw (eW g).toNat)))),(50,.pv (.lit (q.1.hw (eW g).toNat))),(52,e7 q.2.2)]:List (Nat×AV))) (fun q:SR×Nat×Nat=>([(0,some (.box [.own 1 3 1 ((q.1.value).map encI),.own 2 3 1 ((q.1.level).map encI),.own 3 3 1 ((q.1.reason).map encI),.pv (.lit (q.1.hl 0)),.own 5 3 1 ((q.1.marks).map encI),e7 (q.1.low),.own 6 29 1 (gC q.1.nc q.1.hc),.own 8 29 1 (gC q.1.nw q.1.hw),e7 (q.1.head),e7 (q.1.added),fu (q.1.broken),.own 10 65 3 ((q.1.proof).map mI),e7 0,.pv (jX (q.1.model)),.pv (jX (q.1.core))])),(4,some (.ff 3 (kl q.1.hl q.1.ll))),(7,some (.ff 3 (kl q.1.hc q.1.cl))),(9,some (.ff 3 (kl q.1.hw q.1.wl)))]:List (Nat×Option Ob))) (fun q:SR×Nat×Nat=>ux n s σ.head (σ.wl (eW g).toNat).length g q.1 q.2.1 q.2.2) (fun q:SR×Nat×Nat=>(σ.wl (eW g).toNat).length - q.2.2) ((σ,0,0));(conv=>lhs;simp only[Nf.n7,Nf.all,di,reduceAdd,reduceSub]);(all_goals skip))
  ·exact Rp
  ·exact fy rfl (by(refine aD ?_;(iterate 5 refine aD ?_);(iterate 2 refine aC ?_);exact trivial)) (by(refine⟨.box _ rfl ?_,?_⟩;(iterate 3 refine aE ?_);refine aD ?_;refine aE ?_;refine aD ?_;(iterate 2 refine aE ?_);(iterate 3 refine aD ?_);refine aE ?_;refine aD ?_;(iterate 2 refine aG ?_);exact trivial;(iterate 3 refine aH ?_);(iterate 7 refine aF ?_);exact trivial)) rfl
  rintro⟨τ,m,i⟩ hP
  simp only at hP
  refine AW.Aq 9 rfl fun WL V4=>?_
  have YJ:=hP.bnd
  have UL:=hP.mi
  have hiN:=hP.iN
  have HQ:=hP.len
  have Ym:=hP.hd
  by_cases DG:i<(σ.wl (eW g).toNat).length
  ·obtain⟨j,hj,r9,Rf,Kb,h2,jq,jy,o9⟩:=hP.clause DG
   obtain⟨rJ,hR⟩:=List.getElem?_eq_some_iff.1 r9
   have Y8:(τ.wl (eW g).toNat)[(i:Int).toNat]'(by simpa using rJ)=(j:Int):=by simpa using hR
   have hz:(0:Int).toNat<(τ.cl j).length:=show 0<_ by omega
   by_cases Zp:(τ.cl j)[(0:Int).toNat]=g
   ·have yP:(1:Int).toNat<(τ.cl j).length:=show 1<_ by omega
    have hS1:(1:Int).toNat<(fb τ.cl j ((τ.cl j).set (0:Int).toNat (τ.cl j)[(1:Int).toNat]) j).length:=by rw[e8,cM];exact yP
    (refine qa ?_;refine zm ?_;(with_reducible apply a_.fa 9);(iterate 8 exact rfl);exact ab;exact ab;(focus ((with_reducible apply a_.sX 9);(iterate 5 exact rfl);exact ar;rotate_left;exact ab));refine lj ?_;refine jB ?_;refine Ki ?_;refine iL ?_;refine Ru ?_;refine a_.jI rfl rfl rfl rfl (fun h_=>by cases h_) aJ ?_;refine rD ?_;(with_reducible apply AW.wJ 10);(rw[Y8]);(rw[dt j]);refine mj ?_;(with_reducible apply a_.fa 7);(iterate 8 exact rfl);exact ab;exact ab;refine ax ?_;refine zm ?_;refine I3 ?_;refine AW.gB [0,2,3,5,6] [9] rfl (by assumption) aI aI rfl ?_;show a_ .held _ _ _ [_,_,_,_,_] _ _;(iterate 2 refine zm ?_);(with_reducible apply a_.fa 7);(iterate 8 exact rfl);exact ab;exact ab;refine zm ?_;(with_reducible apply a_.fa 7);(iterate 8 exact rfl);exact ab;exact ab;refine J4 ?_;intro k_ ja;refine J0 ?_;(refine AR.free 1 aI rfl rfl rfl (by first|exact fO.fC rfl rfl|exact fO.iu rfl rfl|exact fO.nilCheck rfl rfl) ?_);apply AR.cut [1,6,5,3,2,0,4,7];intro nA;(refine AR.gX (i:=4) (j:=7) rfl aI rfl rfl ?_ ?_<;>intro g_ c_ gh);refine ax ?_;refine J4 ?_;refine AR.fM (i:=7) rfl aI rfl ?_;intro g_ c_ gh;refine ax ?_;refine J4 ?_;refine aB ?_;exact x8;refine ax ?_;refine J4 ?_;refine AR.fM (i:=4) rfl aI rfl ?_;intro g_ c_ gh;refine ax ?_;refine J4 ?_;refine aB ?_;refine QN ?_;refine⟨.box _ rfl ?_,?_⟩;(iterate 15 refine aC ?_);exact trivial;(iterate 3 refine⟨.ff rfl rfl,?_⟩);(iterate 7 refine aF ?_);exact trivial;refine AR.iI [8] aI aI aI aI ?_;intro g_ c_;show a_ .held _ _ _ [_] _ _;(with_reducible apply a_.fa 7);(iterate 8 exact rfl);exact ab;exact ab;refine J4 ?_;intro k_ ja;refine J0 ?_;refine IF ?_;intro g_ c_ fk;(with_reducible apply a_.kR 7);(iterate 7 exact rfl);exact ab;refine mV ?_;refine AR.gY (i:=10) rfl aI rfl aI ?_;intro g_ c_ fk;(with_reducible apply a_.fa 7);(iterate 8 exact rfl);exact ab;exact ab;refine J4 ?_;refine EX ?_;intro g_ c_ fk;(with_reducible apply a_.kR 7);(iterate 7 exact rfl);exact ab;refine rz ?_;refine zo ?_;refine AW.lE 12 ?_)
    obtain⟨CL,VM⟩:∃CL,CL=fb τ.cl j (((τ.cl j).set (0:Int).toNat ((τ.cl j)[(1:Int).toNat]'(show 1<_ by omega))).set (1:Int).toNat ((τ.cl j)[(0:Int).toNat]'(show 0<_ by omega))):=⟨_,rfl⟩
    obtain⟨w1,w2⟩:=Pw h2
    have hQ:ux n s σ.head (σ.wl (eW g).toNat).length g {τ with cl:=CL} m i:=by
     rw[VM]
     exact hP.swap hj Kb (o4 (i:=0) (k:=1) aJ aJ) w1 w2
    have jM:c1 (CL j)=g:=by
     rw[VM,e8]
     exact w2.trans ((fF hz).trans Zp)
    (conv=>rhs;rw[jC,e8,← VM])
    refine Stop.go ?_
    obtain⟨jr,PC,NK⟩:=hQ.inv.cls j hj
    have jr:2≤(CL j).length:=jr
    have PC:(CL j).Nodup:=PC
    have NK:∀x∈CL j,Lit n x:=NK
    have hq3:(CL j).length≤2*n+2:=hQ.inv.D6 hj
    have Gy:=hQ.gl.2
    have kM:τ.value=lf n (τ.ll 0):=hQ.inv.val
    have rN:j1 n (τ.ll 0):=hQ.inv.iK
    have Jg:(0:Int).toNat<(CL j).length:=show 0<_ by omega
    have KJ:(1:Int).toNat<(CL j).length:=show 1<_ by omega
    have mE:(CL j)[(0:Int).toNat]=c0 (CL j):=(fF Jg).symm
    have yP:(CL j)[(1:Int).toNat]=c1 (CL j):=(fF KJ).symm
    have s9:=NK _ (cZ Jg)
    by_cases Gx:(CL j)[(0:Int).toNat]∈τ.ll 0
    ·have ru:=kP (s:={τ with cl:=CL}) (r:=1) kM rN rU s9 (if_pos Gx).symm
     simp only[hX,hZ] at ru
     (refine zo ?_;refine PT ?_;show a_ .held _ _ _ [_,_,_,_,_] _ _;refine oz ?_;(with_reducible apply a_.fa 7);(iterate 8 exact rfl);exact ab;exact ab;refine J4 ?_;intro k_ ja;refine DR ?_;intro g_ c_ gh;refine ax ?_;refine vH ?_;intro g_ c_ fk;refine zX (ru) ?_;refine By ?_;intro g_ c_ fk;refine a_.gtr rfl rfl rfl rfl rfl ?_;refine F_ ?_;refine jB ?_;(iterate 2 refine zm ?_);(with_reducible apply a_.nK);(iterate 5 exact rfl);exact ag;exact rfl;exact rfl;refine J0 ?_;(with_reducible apply a_.jE 9);exact rfl;exact rfl;exact ah;(iterate 6 exact rfl);exact ab;refine J0 ?_;refine kh ?_;refine HZ ?_;refine rC ?_)
     refine⟨({τ with cl:=CL,wl:=fb τ.wl (eW g).toNat ((τ.wl (eW g).toNat).set m (j:Int))},m+1,i+1),hQ.keep hj r9 jM (by rw[← mE];exact Gx),by show _ - (i+1)<_ - i;omega,fy rfl (by(refine Eu ?_;(iterate 5 refine aD ?_);exact Kl)) (by(exact SC)) rfl⟩
    ·obtain⟨r0,Kw⟩:∃r:Int,r=if -(CL j)[(0:Int).toNat]∈τ.ll 0 then -1 else 0:=⟨_,rfl⟩
     have XK: -1≤r0∧r0≤0:=by rw[Kw];split<;>omega
     have ru:=kP (s:={τ with cl:=CL}) (r:=r0) kM rN rU s9 (by rw[if_neg Gx];exact Kw)
     simp only[hX,hZ] at ru
     (refine zo ?_;refine PT ?_;show a_ .held _ _ _ [_,_,_,_,_] _ _;refine oz ?_;(with_reducible apply a_.fa 7);(iterate 8 exact rfl);exact ab;exact ab;refine J4 ?_;intro k_ ja;refine DR ?_;intro g_ c_ gh;refine ax ?_;refine vH ?_;intro g_ c_ fk;refine zX (ru) ?_;refine By ?_;intro g_ c_ fk;refine a_.gtr rfl rfl rfl rfl rfl ?_;refine J4 ?_;refine Hj ?_;refine zk ?_;refine FA ?_;refine jB ?_;refine rD ?_;refine AW.block ?_)
     (refine J0 ?_;apply AW.gP [8,7,6,4,5,50,52,51,3,0,1000] [0,1,2,3,4,5,6,7,8,9,10] (fun k:Nat=>([(9,e7 k)]:List (Nat×AV))) (fun k:Nat=>([]:List (Nat×Option Ob))) (fun k:Nat=>(2≤k∧k≤(CL j).length∧∀p (hp:p<(CL j).length),2≤p→p<k→ -(CL j)[p]∈τ.ll 0)) (fun k:Nat=>(CL j).length - k) (2);(conv=>lhs;simp only[Nf.n7,Nf.all,di,reduceAdd,reduceSub]);(all_goals skip))
     ·exact⟨aP _,jr,fun p _ h1 h2=>by omega⟩
     ·exact YE
     rintro k ⟨sd,Ha,Tk⟩
     by_cases hk:k<(CL j).length
     ·have UD:(k:Int).toNat<(CL j).length:=by omega
      have Db:=NK _ (cZ UD)
      by_cases AN: -(CL j)[(k:Int).toNat]∈τ.ll 0
      ·have BY:=kP (s:={τ with cl:=CL}) (r:= -1) kM rN rU Db (by rw[if_neg fun hh=>rN.nS hh AN,if_pos AN])
       simp only[hX,hZ] at BY
       (refine Of ?_;show a_ .held _ _ _ [_,_,_,_,_,_,_,_,_,_,_] _ _;refine MF ?_;(with_reducible apply a_.fa 7);(iterate 8 exact rfl);exact ab;exact ab;refine J4 ?_;intro k_ ja;refine Ay ?_;intro g_ c_ gh;refine zt ?_;refine ax ?_;refine J4 ?_;refine FX ?_;intro g_ c_ fk;refine Lt ?_;intro g_ c_ fk;refine zt ?_;refine zs ?_;refine J4 ?_;refine vi ?_;intro g_ c_ fk;refine zT ?_;refine F_ ?_;refine FA ?_;refine AW.block ?_;refine qJ ?_;refine zm ?_;refine zj ?_;refine za ?_;refine zu ?_)
       exact⟨k+1,⟨by omega,by omega,fun p hp h1 h2=>by
        by_cases e:p=k
        ·subst e;exact AN
        ·exact Tk p hp h1 aJ⟩,by omega,fy rfl (by(refine aD ?_;(iterate 9 refine aD ?_);(iterate 2 refine aC ?_);exact trivial)) (by(refine⟨.box _ rfl ?_,?_⟩;(iterate 3 refine aE ?_);refine aD ?_;refine aE ?_;refine aD ?_;(iterate 2 refine aE ?_);(iterate 3 refine aD ?_);refine aE ?_;refine aD ?_;(iterate 2 refine aG ?_);exact trivial;(iterate 3 refine aF ?_);refine aH ?_;(iterate 2 refine aF ?_);refine aH ?_;refine aF ?_;refine aH ?_;refine aF ?_;exact trivial)) rfl⟩
      ·obtain⟨rk,TI⟩:∃r:Int,r=if (CL j)[(k:Int).toNat]∈τ.ll 0 then 1 else if -(CL j)[(k:Int).toNat]∈τ.ll 0 then -1 else 0:=⟨_,rfl⟩
       have Xz:0≤rk∧rk≤1:=by rw[TI,if_neg AN];split<;>omega
       have BY:=kP (s:={τ with cl:=CL}) (r:=rk) kM rN rU Db TI
       simp only[hX,hZ] at BY
       obtain⟨D,hD⟩:∃D,D=((CL j).set (1:Int).toNat (CL j)[(k:Int).toNat]).set (k:Int).toNat (CL j)[(1:Int).toNat]:=⟨_,rfl⟩
       have YD:(k:Int).toNat<(fb CL j ((CL j).set (1:Int).toNat (CL j)[(k:Int).toNat]) j).length:=by rw[e8,cM];exact UD
       obtain⟨d0,d1⟩:=Ik sd hk
       have OI:D=((CL j).set 1 (CL j)[k]).set k ((CL j)[1]'(by omega)):=hD
       have E9:lC (CL j) D:=by rw[OI];exact o4 (i:=1) (k:=k) aJ hk
       rw[← OI] at d0 d1
       have QK:(1:Int).toNat<(fb CL j D j).length:=by rw[e8,E9.len];exact KJ
       obtain⟨y,hy⟩:∃y,y=(fb CL j D j)[(1:Int).toNat]:=⟨_,rfl⟩
       have IL:y=(CL j)[k]:=by
        rw[hy,← d1]
        have:∀(L:List Int) (hL:(1:Int).toNat<L.length),L=D→L[(1:Int).toNat]=c1 D:=fun L hL e=>by subst e;exact(fF hL).symm
        exact this _ QK (e8 _ _ _)
       have xu:Lit n y:=by rw[IL];exact Db
       have HR:y≠g:=fun e=>AN (by rw[show(CL j)[(k:Int).toNat]=y from IL.symm,e];exact Gy)
       have ON: -1000000≤y∧y≤1000000:=by obtain⟨_,_,_⟩:=xu;omega
       have DX:0≤eW y∧(eW y).toNat<τ.nw:=by have:=ix xu;omega
       have fZ:(eW g).toNat≠(eW y).toNat:=fun q=>HR (ie xu KW q.symm)
       have QG:(τ.wl (eW y).toNat).length≤τ.nc:=by
        have:=hQ.inv.Hr xu
        simp only[fA _ _ (Ne.symm fZ)] at this
        exact this
       have hM:=hQ.move (y:=y) hj r9 Kb jM E9 d0 (d1.trans IL.symm) HR (fun e=>by
        rw[IL,show c0 (CL j)=(CL j)[0] from fF aJ] at e
        have:=(du PC (h₀:=hk) (h₁:=by omega)).1 e
        omega) (by rw[IL];exact AN)
       rw[hy] at ON DX QG
       have TV:=vq _ ON
       (refine Of ?_;show a_ .held _ _ _ [_,_,_,_,_,_,_,_,_,_,_] _ _;refine MF ?_;(with_reducible apply a_.fa 7);(iterate 8 exact rfl);exact ab;exact ab;refine J4 ?_;intro k_ ja;refine Ay ?_;intro g_ c_ gh;refine zt ?_;refine ax ?_;refine J4 ?_;refine FX ?_;intro g_ c_ fk;refine Lt ?_;intro g_ c_ fk;refine zt ?_;refine zs ?_;refine J4 ?_;refine vi ?_;intro g_ c_ fk;refine zT ?_;refine J4 ?_;refine Hj ?_;refine vj ?_;refine zo ?_;refine jB ?_;refine OJ ?_;refine lq ?_;refine zo ?_;(with_reducible apply AW.Oj 18 30 [0,3,4,5,7,8,9,50,51,52,1000]);exact rfl;refine TA ?_;show a_ .held _ _ _ [_,_,_,_,_,_] _ _;(iterate 3 refine zm ?_);(with_reducible apply a_.fa 7);(iterate 8 exact rfl);exact ab;exact ab;refine zm ?_;(with_reducible apply a_.fa 7);(iterate 8 exact rfl);exact ab;exact ab;refine J4 ?_;intro k_ ja;refine J0 ?_;(refine AR.free 1 aI rfl rfl rfl (by first|exact fO.fC rfl rfl|exact fO.iu rfl rfl|exact fO.nilCheck rfl rfl) ?_);(refine AR.free 2 aI rfl rfl rfl (by first|exact fO.fC rfl rfl|exact fO.iu rfl rfl|exact fO.nilCheck rfl rfl) ?_);apply AR.cut [2,1,8,7,5,4,3,0,6,9];intro nA;(refine AR.gX (i:=6) (j:=9) rfl aI rfl rfl ?_ ?_<;>intro g_ c_ gh);refine ax ?_;refine NJ ?_;intro g_ c_ gh;refine ax ?_;refine J4 ?_;refine aB ?_;exact x8;refine ax ?_;refine J4 ?_;refine AR.fM (i:=6) rfl aI rfl ?_;intro g_ c_ gh;refine ax ?_;refine J4 ?_;refine aB ?_;refine AR.meet nA aI (fun g_=>fy rfl ?_ ?_ rfl);(iterate 21 refine aC ?_);exact trivial;exact Pb;refine AR.iI [10] aI aI aI aI ?_;intro g_ c_;show a_ .held _ _ _ [_] _ _;(with_reducible apply a_.fa 7);(iterate 8 exact rfl);exact ab;exact ab;refine J4 ?_;intro k_ ja;refine J0 ?_;refine EX ?_;intro g_ c_ fk;(with_reducible apply a_.kR 7);(iterate 7 exact rfl);exact ab;refine mV ?_;refine FX ?_;intro g_ c_ fk;(with_reducible apply a_.fa 7);(iterate 8 exact rfl);exact ab;exact ab;refine J4 ?_;refine xR ?_;intro g_ c_ fk;(with_reducible apply a_.kR 7);(iterate 7 exact rfl);exact ab;refine rz ?_;(with_reducible apply AW.wJ 19);(rw[jC]);(rw[e8]);(rw[← hD]);refine zo ?_;refine AW.gB [0,1,2,3,4,5,8,9,10,11,12,13,18] [22] rfl (by assumption) aI aI rfl ?_;show a_ .held _ _ _ [_,_,_,_,_,_,_,_,_,_,_,_,_] _ _;refine xP ?_;refine iL ?_;(with_reducible apply a_.fa 7);(iterate 8 exact rfl);exact ab;exact ab;refine xP ?_;refine iL ?_;(with_reducible apply a_.fa 7);(iterate 8 exact rfl);exact ab;exact ab;refine zm ?_;refine J4 ?_;intro k_ ja;refine J0 ?_;apply AR.cut [18,13,12,11,10,9,8,5,4,3,2,1,0,6,7,14,15,16,17,19];intro nA;apply AR.cut [18,13,12,11,10,9,8,5,4,3,2,1,0,6,7,14,15,16,19];intro qK;apply AR.cut [18,13,12,11,10,9,8,5,4,3,2,1,0,6,7,14,15,19];intro pP;apply AR.cut [18,13,12,11,10,9,8,5,4,3,2,1,0,6,7,14,19];intro tB;apply AR.cut [18,13,12,11,10,9,8,5,4,3,2,1,0,6,7,14];intro Jp;apply AR.cut [18,13,12,11,10,9,8,5,4,3,2,1,0,6,7,19];intro KB;apply AR.cut [18,13,12,11,10,9,8,5,4,3,2,1,0,6,14,19];intro Nx;apply AR.cut [18,13,12,11,10,9,8,5,4,3,2,1,0,6,19];intro IV;apply AR.cut [18,13,12,11,10,9,8,5,4,3,2,1,0,14,19];intro IX;apply AR.cut [18,13,12,11,10,9,8,5,4,3,2,1,0,6,14];intro Kr;(refine AR.ua (i:=6) (j:=14) (m:=19) rfl aI rfl rfl rfl ?_ ?_ ?_<;>intro g_ c_ gh);refine ax ?_;refine J4 ?_;(refine AR.ua (i:=7) (j:=14) (m:=19) rfl aI rfl rfl rfl ?_ ?_ ?_<;>intro g_ c_ gh);refine vf ?_;(refine AR.gX (i:=14) (j:=19) rfl aI rfl rfl ?_ ?_<;>intro g_ c_ gh);refine ax ?_;refine J4 ?_;refine aB ?_;refine u0 ?_;exact AR.perm aI Jp;(with_reducible apply a_.nK);(iterate 5 exact rfl);exact ag;exact rfl;exact rfl;refine mV ?_;refine aB ?_;refine u0 ?_;exact AR.perm aI KB;refine ax ?_;refine J4 ?_;refine aB ?_;refine u0 ?_;exact AR.perm aI Kr;(with_reducible apply a_.nK);(iterate 5 exact rfl);exact ag;exact rfl;exact rfl;refine mV ?_;refine aB ?_;refine u0 ?_;exact AR.perm aI IV;refine ax ?_;refine J4 ?_;(refine AR.gX (i:=6) (j:=19) rfl aI rfl rfl ?_ ?_<;>intro g_ c_ gh);refine ax ?_;refine J4 ?_;refine aB ?_;refine AR.meet Kr aI (fun g_=>fy rfl ?_ ?_ rfl);exact Gn;exact Ph;(with_reducible apply a_.nK);(iterate 5 exact rfl);exact ag;exact rfl;exact rfl;refine mV ?_;refine aB ?_;refine u0 ?_;exact AR.perm aI IX;(with_reducible apply a_.nK);(iterate 5 exact rfl);exact ag;exact rfl;exact rfl;refine mV ?_;(refine AR.gX (i:=6) (j:=14) rfl aI rfl rfl ?_ ?_<;>intro g_ c_ gh);refine ax ?_;refine J4 ?_;refine aB ?_;refine AR.meet IV aI (fun g_=>fy rfl ?_ ?_ rfl);exact Gn;exact rB;refine ax ?_;refine J4 ?_;refine aB ?_;refine AR.meet IX aI (fun g_=>fy rfl ?_ ?_ rfl);exact Gn;exact rB;(refine AR.gX (i:=7) (j:=19) rfl aI rfl rfl ?_ ?_<;>intro g_ c_ gh);refine vf ?_;refine aB ?_;refine AR.meet Jp aI (fun g_=>fy rfl ?_ ?_ rfl);(iterate 39 refine aC ?_);exact trivial;exact Ph;(with_reducible apply a_.nK);(iterate 5 exact rfl);exact ag;exact rfl;exact rfl;refine mV ?_;refine aB ?_;refine u0 ?_;exact AR.perm aI Nx;refine AR.fM (i:=6) rfl aI rfl ?_;intro g_ c_ gh;refine ax ?_;refine J4 ?_;refine aB ?_;exact Lz;(refine AR.gX (i:=7) (j:=14) rfl aI rfl rfl ?_ ?_<;>intro g_ c_ gh);refine vf ?_;refine aB ?_;refine AR.meet KB aI (fun g_=>fy rfl ?_ ?_ rfl);(iterate 39 refine aC ?_);exact trivial;exact rB;refine ax ?_;refine J4 ?_;refine aB ?_;exact Lz;refine AR.fM (i:=7) rfl aI rfl ?_;intro g_ c_ gh;refine vf ?_;refine aB ?_;refine u0 ?_;exact AR.perm aI tB;refine AR.fM (i:=14) rfl aI rfl ?_;intro g_ c_ gh;refine ax ?_;refine J4 ?_;refine aB ?_;exact MY;(refine AR.gX (i:=15) (j:=19) rfl aI rfl rfl ?_ ?_<;>intro g_ c_ gh);refine vf ?_;(refine AR.gX (i:=16) (j:=19) rfl aI rfl rfl ?_ ?_<;>intro g_ c_ gh);refine uW ?_;(refine AR.gX (i:=17) (j:=19) rfl aI rfl rfl ?_ ?_<;>intro g_ c_ gh);refine a_.jI rfl rfl rfl rfl (fun h_=>by cases h_) aJ ?_;refine J4 ?_;refine AR.fM (i:=19) rfl aI rfl ?_;intro g_ c_ gh;(with_reducible apply a_.nK);(iterate 5 exact rfl);exact ag;exact rfl;exact rfl;refine mV ?_;refine aB ?_;exact x8;(with_reducible apply a_.nK);(iterate 5 exact rfl);exact ag;exact rfl;exact rfl;refine mV ?_;refine aB ?_;exact HE;(with_reducible apply a_.nK);(iterate 5 exact rfl);exact ag;exact rfl;exact rfl;refine mV ?_;refine aB ?_;refine u0 ?_;exact AR.perm aI pP;(with_reducible apply a_.nK);(iterate 5 exact rfl);exact ag;exact rfl;exact rfl;refine mV ?_;refine aB ?_;exact MY;refine AR.fM (i:=15) rfl aI rfl ?_;intro g_ c_ gh;refine vf ?_;refine aB ?_;refine AR.meet pP aI (fun g_=>fy rfl ?_ ?_ rfl);(iterate 41 refine aC ?_);exact trivial;exact rB;refine AR.fM (i:=16) rfl aI rfl ?_;intro g_ c_ gh;refine uW ?_;refine aB ?_;refine AR.meet qK aI (fun g_=>fy rfl ?_ ?_ rfl);(iterate 42 refine aC ?_);exact trivial;exact rB;refine AR.fM (i:=17) rfl aI rfl ?_;intro g_ c_ gh;refine a_.jI rfl rfl rfl rfl (fun h_=>by cases h_) aJ ?_;refine J4 ?_;refine aB ?_;refine AR.meet nA aI (fun g_=>fy rfl ?_ ?_ rfl);(iterate 43 refine aC ?_);exact trivial;exact rB;refine AR.fM (i:=20) rfl aI rfl ?_;intro g_ c_ gh;(with_reducible apply a_.ma 9);exact rfl;exact rfl;exact ah;(iterate 8 exact rfl);omega;(intro v_ JN);refine mV ?_;refine AR.iI [21] aI aI aI aI ?_;intro g_ c_;show a_ .held _ _ _ [_] _ _;refine uW ?_;intro k_ ja;refine J0 ?_;refine AR.gY (i:=22) rfl aI rfl aI ?_;intro g_ c_ fk;(with_reducible apply a_.gA);(iterate 4 exact rfl);exact ag;(iterate 3 exact rfl);refine rz ?_;refine HZ ?_;refine yy ?_)
       rw[← hy] at*
       refine⟨({τ with cl:=fb CL j D,hw:=fb τ.hw (eW y).toNat v_,wl:=fb τ.wl (eW y).toNat (τ.wl (eW y).toNat++ [(j:Int)])},m,i+1),hM _,by show _ - (i+1)<_ - i;omega,fy rfl (by(refine Ur ?_;exact trivial)) (by(exact TN)) rfl⟩
     ·obtain rfl:k=(CL j).length:=by omega
      have iT:∀x∈CL j,x≠c0 (CL j)→ -x∈τ.ll 0:=fun x hx fZ=>by
       obtain⟨p,hp,rfl⟩:=dc hx
       by_cases e0:p=0
       ·subst e0;exact absurd (fF hp).symm fZ
       ·by_cases e1:p=1
        ·subst e1
         rw[show(CL j)[1]=g from(fF hp).symm.trans jM];exact Gy
        ·exact Tk p hp aJ hp
      by_cases IU: -(CL j)[(0:Int).toNat]∈τ.ll 0
      ·have xn:=kP (s:={τ with cl:=CL,wl:=fb τ.wl (eW g).toNat ((τ.wl (eW g).toNat).set m (j:Int))}) (r:= -1) kM rN rU s9 (by rw[if_neg Gx,if_pos IU])
       simp only[hX,hZ] at xn
       (refine Of ?_;show a_ .held _ _ _ [_,_,_,_,_,_,_,_,_,_,_] _ _;refine OJ ?_;refine zm ?_;refine M1 ?_;intro k_ ja;refine Ay ?_;intro g_ c_ gh;refine H0 ?_;refine FX ?_;intro g_ c_ fk;refine H0 ?_;refine xR ?_;intro g_ c_ fk;refine H0 ?_;refine vi ?_;intro g_ c_ fk;refine Ni ?_;(with_reducible apply a_.nK);(iterate 5 exact rfl);exact ag;exact rfl;exact rfl;refine J0 ?_;(with_reducible apply a_.jE 9);exact rfl;exact rfl;exact ah;(iterate 6 exact rfl);exact ab;refine Mp ?_;show a_ .held _ _ _ [_,_,_,_,_] _ _;refine oz ?_;(with_reducible apply a_.fa 7);(iterate 8 exact rfl);exact ab;exact ab;refine J4 ?_;intro k_ ja;refine DR ?_;intro g_ c_ gh;refine ax ?_;refine vH ?_;intro g_ c_ fk;refine zX (xn) ?_;refine By ?_;intro g_ c_ fk;refine zs ?_;refine F_ ?_;refine jB ?_;(iterate 3 refine zm ?_);refine zj ?_;(with_reducible apply a_.wD 9);(iterate 8 exact rfl);exact ab;exact ab;(with_reducible apply a_.pf 9 (m+1) ((i:Int)+1).toNat);(iterate 8 exact rfl);omega;(simp only[e8,cM];omega);(intro h_;have:=congrArg dW h_;simp only[e8,cM,bU] at this;omega);refine aB ?_;refine kh ?_;refine AW.lE 23 ?_)
       refine Stop.go ?_
       refine AW.rV 9 (eW g).toNat (m+1+((τ.wl (eW g).toNat).length - ((i:Int)+1).toNat)) rfl ?_ ?_
       ·simp only[e8,bV,dI,cQ,cM];omega
       (conv=>rhs;simp only[e8,jC,cM])
       have E3:=Ff UL rJ hR
       have mb:0≤eW g∧(eW g).toNat<τ.nw:=by have:=ix KW;omega
       have Vc:∀x∈CL j,-x∈τ.ll 0:=fun x hx=>by
        by_cases e:x=c0 (CL j)
        ·rw[e,← mE];exact IU
        ·exact iT x hx e
       (conv=>rhs;rw[E3])
       (refine zo ?_;refine O9 ?_;show a_ .held _ _ _ [_,_,_,_,_,_] _ _;refine xP ?_;refine Be ?_;refine J4 ?_;intro k_ ja;refine DR ?_;intro g_ c_ gh;refine O_ ?_;intro g_ c_;show a_ .held _ _ _ [_] _ _;refine uW ?_;intro k_ ja;refine J0 ?_;refine Gf ?_;intro g_ c_ fk;(with_reducible apply a_.gA);(iterate 4 exact rfl);exact ag;(iterate 3 exact rfl);refine rz ?_;refine zq ?_;refine zm ?_;refine xL ?_;(iterate 2 refine zJ ?_))
       (apply gS ((({τ with cl:=CL,hw:=fb τ.hw (eW g).toNat (jn (m+1+((τ.wl (eW g).toNat).length - ((i:Int)+1).toNat)) (τ.hw (eW g).toNat)),wl:=fb τ.wl (eW g).toNat ((τ.wl (eW g).toNat).take m++(τ.wl (eW g).toNat).drop i)},(j:Int)):SR×Int)) (⟨hQ.inv.hw _,hQ.ext.Eo fun _=> .refl _,.inr ⟨j,hj,rfl,Vc⟩⟩);((exact gn.one (.tmp rfl rfl)));((refine⟨.fh (by first|rfl|exact fT _ mb.2 _),?_⟩;exact vw));((exact S0));exact rfl)
      ·have xn:=kP (s:={τ with cl:=CL,wl:=fb τ.wl (eW g).toNat ((τ.wl (eW g).toNat).set m (j:Int))}) (r:=0) kM rN rU s9 (by rw[if_neg Gx,if_neg IU])
       simp only[hX,hZ] at xn
       have hp:=qC {τ with cl:=CL,wl:=fb τ.wl (eW g).toNat ((τ.wl (eW g).toNat).set m (j:Int))} (CL j)[(0:Int).toNat] (j:Int) (by obtain⟨_,_,_⟩:=s9;omega) (by obtain⟨_,_,_⟩:=s9;show _<(τ.value.length:Int)∧_<(τ.value.length:Int);omega) (by show τ.level.length=τ.value.length;omega) (by show τ.reason.length=τ.value.length;omega) (by show(τ.ll 0).length≤_;omega) (by show τ.marks.length≤_;rw[hP.ext.marks];exact OA)
       simp only[hX,hZ] at hp
       (refine Of ?_;show a_ .held _ _ _ [_,_,_,_,_,_,_,_,_,_,_] _ _;refine OJ ?_;refine zm ?_;refine M1 ?_;intro k_ ja;refine Ay ?_;intro g_ c_ gh;refine H0 ?_;refine FX ?_;intro g_ c_ fk;refine H0 ?_;refine xR ?_;intro g_ c_ fk;refine H0 ?_;refine vi ?_;intro g_ c_ fk;refine Ni ?_;(with_reducible apply a_.nK);(iterate 5 exact rfl);exact ag;exact rfl;exact rfl;refine J0 ?_;(with_reducible apply a_.jE 9);exact rfl;exact rfl;exact ah;(iterate 6 exact rfl);exact ab;refine Mp ?_;show a_ .held _ _ _ [_,_,_,_,_] _ _;refine oz ?_;(with_reducible apply a_.fa 7);(iterate 8 exact rfl);exact ab;exact ab;refine J4 ?_;intro k_ ja;refine DR ?_;intro g_ c_ gh;refine ax ?_;refine vH ?_;intro g_ c_ fk;refine zX (xn) ?_;refine By ?_;intro g_ c_ fk;refine T2 ?_;show a_ .held _ _ _ [_,_,_,_,_,_] _ _;refine oz ?_;(with_reducible apply a_.fa 7);(iterate 8 exact rfl);exact ab;exact ab;refine zm ?_;refine J4 ?_;intro k_ ja;refine DR ?_;intro g_ c_ gh;refine ax ?_;refine J4 ?_;refine AR.gY (i:=7) rfl aI rfl aI ?_;intro g_ c_ fk;(with_reducible apply a_.kc (hf:=hp));(with_reducible assumption);(iterate 3 exact rfl);exact aq;exact ak;(intro x_;exact rfl);exact rfl;exact al;(intro x_;exact al);(intro x_;exact rfl);exact rfl;(intro x_ pI);refine J1 ?_;refine wz ?_;refine C4 ?_;refine yy ?_)
       have Tb:=hQ.push hj r9 jM iT (by rw[← mE];exact Gx) (by rw[← mE];exact IU) x_
       rw[show c0 (SR.cl {τ with cl:=CL} j)=(CL j)[(0:Int).toNat] from mE.symm] at Tb
       exact⟨(fL {τ with cl:=CL,wl:=fb τ.wl (eW g).toNat ((τ.wl (eW g).toNat).set m (j:Int))} (CL j)[(0:Int).toNat] (j:Int) x_,m+1,i+1),Tb,by show _ - (i+1)<_ - i;omega,fy rfl (by(refine aD ?_;(iterate 5 refine aD ?_);(iterate 2 refine aC ?_);exact trivial)) (by(refine⟨.box _ rfl ?_,?_⟩;(iterate 3 refine aE ?_);refine aD ?_;refine aE ?_;refine aD ?_;(iterate 2 refine aE ?_);(iterate 3 refine aD ?_);refine aE ?_;refine aD ?_;(iterate 2 refine aG ?_);exact trivial;(iterate 3 refine aH ?_);(iterate 7 refine aF ?_);exact trivial)) rfl⟩
   ·(refine qa ?_;refine zm ?_;(with_reducible apply a_.fa 9);(iterate 8 exact rfl);exact ab;exact ab;(focus ((with_reducible apply a_.sX 9);(iterate 5 exact rfl);exact ar;rotate_left;exact ab));refine lj ?_;refine jB ?_;refine Ki ?_;refine iL ?_;refine Ru ?_;refine a_.jI rfl rfl rfl rfl (fun h_=>by cases h_) aJ ?_;refine rD ?_;(with_reducible apply AW.wJ 10);(rw[Y8]);(rw[dt j]);refine mj ?_;(with_reducible apply a_.fa 7);(iterate 8 exact rfl);exact ab;exact ab;refine ax ?_;refine zm ?_;refine Cm ?_;refine zo ?_;refine AW.lE 12 ?_)
    have hQ:ux n s σ.head (σ.wl (eW g).toNat).length g {τ with cl:=τ.cl} m i:=hP
    have jM:c1 (τ.cl j)=g:=Rf.resolve_left fun e=>Zp ((fF hz).symm.trans e)
    refine Stop.go ?_
    obtain⟨jr,PC,NK⟩:=hQ.inv.cls j hj
    have jr:2≤(τ.cl j).length:=jr
    have PC:(τ.cl j).Nodup:=PC
    have NK:∀x∈τ.cl j,Lit n x:=NK
    have hq3:(τ.cl j).length≤2*n+2:=hQ.inv.D6 hj
    have Gy:=hQ.gl.2
    have kM:τ.value=lf n (τ.ll 0):=hQ.inv.val
    have rN:j1 n (τ.ll 0):=hQ.inv.iK
    have Jg:(0:Int).toNat<(τ.cl j).length:=show 0<_ by omega
    have KJ:(1:Int).toNat<(τ.cl j).length:=show 1<_ by omega
    have mE:(τ.cl j)[(0:Int).toNat]=c0 (τ.cl j):=(fF Jg).symm
    have yP:(τ.cl j)[(1:Int).toNat]=c1 (τ.cl j):=(fF KJ).symm
    have s9:=NK _ (cZ Jg)
    by_cases Gx:(τ.cl j)[(0:Int).toNat]∈τ.ll 0
    ·have ru:=kP (s:={τ with cl:=τ.cl}) (r:=1) kM rN rU s9 (if_pos Gx).symm
     simp only[hX,hZ] at ru
     (refine zo ?_;refine PT ?_;show a_ .held _ _ _ [_,_,_,_,_] _ _;refine oz ?_;(with_reducible apply a_.fa 7);(iterate 8 exact rfl);exact ab;exact ab;refine J4 ?_;intro k_ ja;refine DR ?_;intro g_ c_ gh;refine ax ?_;refine vH ?_;intro g_ c_ fk;refine zX (ru) ?_;refine By ?_;intro g_ c_ fk;refine a_.gtr rfl rfl rfl rfl rfl ?_;refine F_ ?_;refine jB ?_;(iterate 2 refine zm ?_);(with_reducible apply a_.nK);(iterate 5 exact rfl);exact ag;exact rfl;exact rfl;refine J0 ?_;(with_reducible apply a_.jE 9);exact rfl;exact rfl;exact ah;(iterate 6 exact rfl);exact ab;refine J0 ?_;refine kh ?_;refine HZ ?_;refine rC ?_)
     refine⟨({τ with cl:=τ.cl,wl:=fb τ.wl (eW g).toNat ((τ.wl (eW g).toNat).set m (j:Int))},m+1,i+1),hQ.keep hj r9 jM (by rw[← mE];exact Gx),by show _ - (i+1)<_ - i;omega,fy rfl (by(refine Eu ?_;(iterate 5 refine aD ?_);exact Kl)) (by(exact SC)) rfl⟩
    ·obtain⟨r0,Kw⟩:∃r:Int,r=if -(τ.cl j)[(0:Int).toNat]∈τ.ll 0 then -1 else 0:=⟨_,rfl⟩
     have XK: -1≤r0∧r0≤0:=by rw[Kw];split<;>omega
     have ru:=kP (s:={τ with cl:=τ.cl}) (r:=r0) kM rN rU s9 (by rw[if_neg Gx];exact Kw)
     simp only[hX,hZ] at ru
     (refine zo ?_;refine PT ?_;show a_ .held _ _ _ [_,_,_,_,_] _ _;refine oz ?_;(with_reducible apply a_.fa 7);(iterate 8 exact rfl);exact ab;exact ab;refine J4 ?_;intro k_ ja;refine DR ?_;intro g_ c_ gh;refine ax ?_;refine vH ?_;intro g_ c_ fk;refine zX (ru) ?_;refine By ?_;intro g_ c_ fk;refine a_.gtr rfl rfl rfl rfl rfl ?_;refine J4 ?_;refine Hj ?_;refine zk ?_;refine FA ?_;refine jB ?_;refine rD ?_;refine AW.block ?_)
     (refine J0 ?_;apply AW.gP [8,7,6,4,5,50,52,51,3,0,1000] [0,1,2,3,4,5,6,7,8,9,10] (fun k:Nat=>([(9,e7 k)]:List (Nat×AV))) (fun k:Nat=>([]:List (Nat×Option Ob))) (fun k:Nat=>(2≤k∧k≤(τ.cl j).length∧∀p (hp:p<(τ.cl j).length),2≤p→p<k→ -(τ.cl j)[p]∈τ.ll 0)) (fun k:Nat=>(τ.cl j).length - k) (2);(conv=>lhs;simp only[Nf.n7,Nf.all,di,reduceAdd,reduceSub]);(all_goals skip))
     ·exact⟨aP _,jr,fun p _ h1 h2=>by omega⟩
     ·exact YE
     rintro k ⟨sd,Ha,Tk⟩
     by_cases hk:k<(τ.cl j).length
     ·have UD:(k:Int).toNat<(τ.cl j).length:=by omega
      have Db:=NK _ (cZ UD)
      by_cases AN: -(τ.cl j)[(k:Int).toNat]∈τ.ll 0
      ·have BY:=kP (s:={τ with cl:=τ.cl}) (r:= -1) kM rN rU Db (by rw[if_neg fun hh=>rN.nS hh AN,if_pos AN])
       simp only[hX,hZ] at BY
       (refine Of ?_;show a_ .held _ _ _ [_,_,_,_,_,_,_,_,_,_,_] _ _;refine MF ?_;(with_reducible apply a_.fa 7);(iterate 8 exact rfl);exact ab;exact ab;refine J4 ?_;intro k_ ja;refine Ay ?_;intro g_ c_ gh;refine zt ?_;refine ax ?_;refine J4 ?_;refine FX ?_;intro g_ c_ fk;refine Lt ?_;intro g_ c_ fk;refine zt ?_;refine zs ?_;refine J4 ?_;refine vi ?_;intro g_ c_ fk;refine zT ?_;refine F_ ?_;refine FA ?_;refine AW.block ?_;refine qJ ?_;refine zm ?_;refine zj ?_;refine za ?_;refine zu ?_)
       exact⟨k+1,⟨by omega,by omega,fun p hp h1 h2=>by
        by_cases e:p=k
        ·subst e;exact AN
        ·exact Tk p hp h1 aJ⟩,by omega,fy rfl (by(refine aD ?_;(iterate 9 refine aD ?_);(iterate 2 refine aC ?_);exact trivial)) (by(refine⟨.box _ rfl ?_,?_⟩;(iterate 3 refine aE ?_);refine aD ?_;refine aE ?_;refine aD ?_;(iterate 2 refine aE ?_);(iterate 3 refine aD ?_);refine aE ?_;refine aD ?_;(iterate 2 refine aG ?_);exact trivial;(iterate 3 refine aF ?_);refine aH ?_;(iterate 2 refine aF ?_);refine aH ?_;refine aF ?_;refine aH ?_;refine aF ?_;exact trivial)) rfl⟩
      ·obtain⟨rk,TI⟩:∃r:Int,r=if (τ.cl j)[(k:Int).toNat]∈τ.ll 0 then 1 else if -(τ.cl j)[(k:Int).toNat]∈τ.ll 0 then -1 else 0:=⟨_,rfl⟩
       have Xz:0≤rk∧rk≤1:=by rw[TI,if_neg AN];split<;>omega
       have BY:=kP (s:={τ with cl:=τ.cl}) (r:=rk) kM rN rU Db TI
       simp only[hX,hZ] at BY
       obtain⟨D,hD⟩:∃D,D=((τ.cl j).set (1:Int).toNat (τ.cl j)[(k:Int).toNat]).set (k:Int).toNat (τ.cl j)[(1:Int).toNat]:=⟨_,rfl⟩
       have YD:(k:Int).toNat<(fb τ.cl j ((τ.cl j).set (1:Int).toNat (τ.cl j)[(k:Int).toNat]) j).length:=by rw[e8,cM];exact UD
       obtain⟨d0,d1⟩:=Ik sd hk
       have OI:D=((τ.cl j).set 1 (τ.cl j)[k]).set k ((τ.cl j)[1]'(by omega)):=hD
       have E9:lC (τ.cl j) D:=by rw[OI];exact o4 (i:=1) (k:=k) aJ hk
       rw[← OI] at d0 d1
       have QK:(1:Int).toNat<(fb τ.cl j D j).length:=by rw[e8,E9.len];exact KJ
       obtain⟨y,hy⟩:∃y,y=(fb τ.cl j D j)[(1:Int).toNat]:=⟨_,rfl⟩
       have IL:y=(τ.cl j)[k]:=by
        rw[hy,← d1]
        have:∀(L:List Int) (hL:(1:Int).toNat<L.length),L=D→L[(1:Int).toNat]=c1 D:=fun L hL e=>by subst e;exact(fF hL).symm
        exact this _ QK (e8 _ _ _)
       have xu:Lit n y:=by rw[IL];exact Db
       have HR:y≠g:=fun e=>AN (by rw[show(τ.cl j)[(k:Int).toNat]=y from IL.symm,e];exact Gy)
       have ON: -1000000≤y∧y≤1000000:=by obtain⟨_,_,_⟩:=xu;omega
       have DX:0≤eW y∧(eW y).toNat<τ.nw:=by have:=ix xu;omega
       have fZ:(eW g).toNat≠(eW y).toNat:=fun q=>HR (ie xu KW q.symm)
       have QG:(τ.wl (eW y).toNat).length≤τ.nc:=by
        have:=hQ.inv.Hr xu
        simp only[fA _ _ (Ne.symm fZ)] at this
        exact this
       have hM:=hQ.move (y:=y) hj r9 Kb jM E9 d0 (d1.trans IL.symm) HR (fun e=>by
        rw[IL,show c0 (τ.cl j)=(τ.cl j)[0] from fF aJ] at e
        have:=(du PC (h₀:=hk) (h₁:=by omega)).1 e
        omega) (by rw[IL];exact AN)
       rw[hy] at ON DX QG
       have TV:=vq _ ON
       (refine Of ?_;show a_ .held _ _ _ [_,_,_,_,_,_,_,_,_,_,_] _ _;refine MF ?_;(with_reducible apply a_.fa 7);(iterate 8 exact rfl);exact ab;exact ab;refine J4 ?_;intro k_ ja;refine Ay ?_;intro g_ c_ gh;refine zt ?_;refine ax ?_;refine J4 ?_;refine FX ?_;intro g_ c_ fk;refine Lt ?_;intro g_ c_ fk;refine zt ?_;refine zs ?_;refine J4 ?_;refine vi ?_;intro g_ c_ fk;refine zT ?_;refine J4 ?_;refine Hj ?_;refine vj ?_;refine zo ?_;refine jB ?_;refine OJ ?_;refine lq ?_;refine zo ?_;(with_reducible apply AW.Oj 18 30 [0,3,4,5,7,8,9,50,51,52,1000]);exact rfl;refine TA ?_;show a_ .held _ _ _ [_,_,_,_,_,_] _ _;(iterate 3 refine zm ?_);(with_reducible apply a_.fa 7);(iterate 8 exact rfl);exact ab;exact ab;refine zm ?_;(with_reducible apply a_.fa 7);(iterate 8 exact rfl);exact ab;exact ab;refine J4 ?_;intro k_ ja;refine J0 ?_;(refine AR.free 1 aI rfl rfl rfl (by first|exact fO.fC rfl rfl|exact fO.iu rfl rfl|exact fO.nilCheck rfl rfl) ?_);(refine AR.free 2 aI rfl rfl rfl (by first|exact fO.fC rfl rfl|exact fO.iu rfl rfl|exact fO.nilCheck rfl rfl) ?_);apply AR.cut [2,1,8,7,5,4,3,0,6,9];intro nA;(refine AR.gX (i:=6) (j:=9) rfl aI rfl rfl ?_ ?_<;>intro g_ c_ gh);refine ax ?_;refine NJ ?_;intro g_ c_ gh;refine ax ?_;refine J4 ?_;refine aB ?_;exact x8;refine ax ?_;refine J4 ?_;refine AR.fM (i:=6) rfl aI rfl ?_;intro g_ c_ gh;refine ax ?_;refine J4 ?_;refine aB ?_;refine AR.meet nA aI (fun g_=>fy rfl ?_ ?_ rfl);(iterate 21 refine aC ?_);exact trivial;exact Pb;refine AR.iI [10] aI aI aI aI ?_;intro g_ c_;show a_ .held _ _ _ [_] _ _;(with_reducible apply a_.fa 7);(iterate 8 exact rfl);exact ab;exact ab;refine J4 ?_;intro k_ ja;refine J0 ?_;refine EX ?_;intro g_ c_ fk;(with_reducible apply a_.kR 7);(iterate 7 exact rfl);exact ab;refine mV ?_;refine FX ?_;intro g_ c_ fk;(with_reducible apply a_.fa 7);(iterate 8 exact rfl);exact ab;exact ab;refine J4 ?_;refine xR ?_;intro g_ c_ fk;(with_reducible apply a_.kR 7);(iterate 7 exact rfl);exact ab;refine rz ?_;(with_reducible apply AW.wJ 19);(rw[jC]);(rw[e8]);(rw[← hD]);refine zo ?_;refine AW.gB [0,1,2,3,4,5,8,9,10,11,12,13,18] [22] rfl (by assumption) aI aI rfl ?_;show a_ .held _ _ _ [_,_,_,_,_,_,_,_,_,_,_,_,_] _ _;refine xP ?_;refine iL ?_;(with_reducible apply a_.fa 7);(iterate 8 exact rfl);exact ab;exact ab;refine xP ?_;refine iL ?_;(with_reducible apply a_.fa 7);(iterate 8 exact rfl);exact ab;exact ab;refine zm ?_;refine J4 ?_;intro k_ ja;refine J0 ?_;apply AR.cut [18,13,12,11,10,9,8,5,4,3,2,1,0,6,7,14,15,16,17,19];intro nA;apply AR.cut [18,13,12,11,10,9,8,5,4,3,2,1,0,6,7,14,15,16,19];intro qK;apply AR.cut [18,13,12,11,10,9,8,5,4,3,2,1,0,6,7,14,15,19];intro pP;apply AR.cut [18,13,12,11,10,9,8,5,4,3,2,1,0,6,7,14,19];intro tB;apply AR.cut [18,13,12,11,10,9,8,5,4,3,2,1,0,6,7,14];intro Jp;apply AR.cut [18,13,12,11,10,9,8,5,4,3,2,1,0,6,7,19];intro KB;apply AR.cut [18,13,12,11,10,9,8,5,4,3,2,1,0,6,14,19];intro Nx;apply AR.cut [18,13,12,11,10,9,8,5,4,3,2,1,0,6,19];intro IV;apply AR.cut [18,13,12,11,10,9,8,5,4,3,2,1,0,14,19];intro IX;apply AR.cut [18,13,12,11,10,9,8,5,4,3,2,1,0,6,14];intro Kr;(refine AR.ua (i:=6) (j:=14) (m:=19) rfl aI rfl rfl rfl ?_ ?_ ?_<;>intro g_ c_ gh);refine ax ?_;refine J4 ?_;(refine AR.ua (i:=7) (j:=14) (m:=19) rfl aI rfl rfl rfl ?_ ?_ ?_<;>intro g_ c_ gh);refine vf ?_;(refine AR.gX (i:=14) (j:=19) rfl aI rfl rfl ?_ ?_<;>intro g_ c_ gh);refine ax ?_;refine J4 ?_;refine aB ?_;refine u0 ?_;exact AR.perm aI Jp;(with_reducible apply a_.nK);(iterate 5 exact rfl);exact ag;exact rfl;exact rfl;refine mV ?_;refine aB ?_;refine u0 ?_;exact AR.perm aI KB;refine ax ?_;refine J4 ?_;refine aB ?_;refine u0 ?_;exact AR.perm aI Kr;(with_reducible apply a_.nK);(iterate 5 exact rfl);exact ag;exact rfl;exact rfl;refine mV ?_;refine aB ?_;refine u0 ?_;exact AR.perm aI IV;refine ax ?_;refine J4 ?_;(refine AR.gX (i:=6) (j:=19) rfl aI rfl rfl ?_ ?_<;>intro g_ c_ gh);refine ax ?_;refine J4 ?_;refine aB ?_;refine AR.meet Kr aI (fun g_=>fy rfl ?_ ?_ rfl);exact Gn;exact Ph;(with_reducible apply a_.nK);(iterate 5 exact rfl);exact ag;exact rfl;exact rfl;refine mV ?_;refine aB ?_;refine u0 ?_;exact AR.perm aI IX;(with_reducible apply a_.nK);(iterate 5 exact rfl);exact ag;exact rfl;exact rfl;refine mV ?_;(refine AR.gX (i:=6) (j:=14) rfl aI rfl rfl ?_ ?_<;>intro g_ c_ gh);refine ax ?_;refine J4 ?_;refine aB ?_;refine AR.meet IV aI (fun g_=>fy rfl ?_ ?_ rfl);exact Gn;exact rB;refine ax ?_;refine J4 ?_;refine aB ?_;refine AR.meet IX aI (fun g_=>fy rfl ?_ ?_ rfl);exact Gn;exact rB;(refine AR.gX (i:=7) (j:=19) rfl aI rfl rfl ?_ ?_<;>intro g_ c_ gh);refine vf ?_;refine aB ?_;refine AR.meet Jp aI (fun g_=>fy rfl ?_ ?_ rfl);(iterate 39 refine aC ?_);exact trivial;exact Ph;(with_reducible apply a_.nK);(iterate 5 exact rfl);exact ag;exact rfl;exact rfl;refine mV ?_;refine aB ?_;refine u0 ?_;exact AR.perm aI Nx;refine AR.fM (i:=6) rfl aI rfl ?_;intro g_ c_ gh;refine ax ?_;refine J4 ?_;refine aB ?_;exact Lz;(refine AR.gX (i:=7) (j:=14) rfl aI rfl rfl ?_ ?_<;>intro g_ c_ gh);refine vf ?_;refine aB ?_;refine AR.meet KB aI (fun g_=>fy rfl ?_ ?_ rfl);(iterate 39 refine aC ?_);exact trivial;exact rB;refine ax ?_;refine J4 ?_;refine aB ?_;exact Lz;refine AR.fM (i:=7) rfl aI rfl ?_;intro g_ c_ gh;refine vf ?_;refine aB ?_;refine u0 ?_;exact AR.perm aI tB;refine AR.fM (i:=14) rfl aI rfl ?_;intro g_ c_ gh;refine ax ?_;refine J4 ?_;refine aB ?_;exact MY;(refine AR.gX (i:=15) (j:=19) rfl aI rfl rfl ?_ ?_<;>intro g_ c_ gh);refine vf ?_;(refine AR.gX (i:=16) (j:=19) rfl aI rfl rfl ?_ ?_<;>intro g_ c_ gh);refine uW ?_;(refine AR.gX (i:=17) (j:=19) rfl aI rfl rfl ?_ ?_<;>intro g_ c_ gh);refine a_.jI rfl rfl rfl rfl (fun h_=>by cases h_) aJ ?_;refine J4 ?_;refine AR.fM (i:=19) rfl aI rfl ?_;intro g_ c_ gh;(with_reducible apply a_.nK);(iterate 5 exact rfl);exact ag;exact rfl;exact rfl;refine mV ?_;refine aB ?_;exact x8;(with_reducible apply a_.nK);(iterate 5 exact rfl);exact ag;exact rfl;exact rfl;refine mV ?_;refine aB ?_;exact HE;(with_reducible apply a_.nK);(iterate 5 exact rfl);exact ag;exact rfl;exact rfl;refine mV ?_;refine aB ?_;refine u0 ?_;exact AR.perm aI pP;(with_reducible apply a_.nK);(iterate 5 exact rfl);exact ag;exact rfl;exact rfl;refine mV ?_;refine aB ?_;exact MY;refine AR.fM (i:=15) rfl aI rfl ?_;intro g_ c_ gh;refine vf ?_;refine aB ?_;refine AR.meet pP aI (fun g_=>fy rfl ?_ ?_ rfl);(iterate 41 refine aC ?_);exact trivial;exact rB;refine AR.fM (i:=16) rfl aI rfl ?_;intro g_ c_ gh;refine uW ?_;refine aB ?_;refine AR.meet qK aI (fun g_=>fy rfl ?_ ?_ rfl);(iterate 42 refine aC ?_);exact trivial;exact rB;refine AR.fM (i:=17) rfl aI rfl ?_;intro g_ c_ gh;refine a_.jI rfl rfl rfl rfl (fun h_=>by cases h_) aJ ?_;refine J4 ?_;refine aB ?_;refine AR.meet nA aI (fun g_=>fy rfl ?_ ?_ rfl);(iterate 43 refine aC ?_);exact trivial;exact rB;refine AR.fM (i:=20) rfl aI rfl ?_;intro g_ c_ gh;(with_reducible apply a_.ma 9);exact rfl;exact rfl;exact ah;(iterate 8 exact rfl);omega;(intro v_ JN);refine mV ?_;refine AR.iI [21] aI aI aI aI ?_;intro g_ c_;show a_ .held _ _ _ [_] _ _;refine uW ?_;intro k_ ja;refine J0 ?_;refine AR.gY (i:=22) rfl aI rfl aI ?_;intro g_ c_ fk;(with_reducible apply a_.gA);(iterate 4 exact rfl);exact ag;(iterate 3 exact rfl);refine rz ?_;refine HZ ?_;refine yy ?_)
       rw[← hy] at*
       refine⟨({τ with cl:=fb τ.cl j D,hw:=fb τ.hw (eW y).toNat v_,wl:=fb τ.wl (eW y).toNat (τ.wl (eW y).toNat++ [(j:Int)])},m,i+1),hM _,by show _ - (i+1)<_ - i;omega,fy rfl (by(refine Ur ?_;exact trivial)) (by(exact TN)) rfl⟩
     ·obtain rfl:k=(τ.cl j).length:=by omega
      have iT:∀x∈τ.cl j,x≠c0 (τ.cl j)→ -x∈τ.ll 0:=fun x hx fZ=>by
       obtain⟨p,hp,rfl⟩:=dc hx
       by_cases e0:p=0
       ·subst e0;exact absurd (fF hp).symm fZ
       ·by_cases e1:p=1
        ·subst e1
         rw[show(τ.cl j)[1]=g from(fF hp).symm.trans jM];exact Gy
        ·exact Tk p hp aJ hp
      by_cases IU: -(τ.cl j)[(0:Int).toNat]∈τ.ll 0
      ·have xn:=kP (s:={τ with cl:=τ.cl,wl:=fb τ.wl (eW g).toNat ((τ.wl (eW g).toNat).set m (j:Int))}) (r:= -1) kM rN rU s9 (by rw[if_neg Gx,if_pos IU])
       simp only[hX,hZ] at xn
       (refine Of ?_;show a_ .held _ _ _ [_,_,_,_,_,_,_,_,_,_,_] _ _;refine OJ ?_;refine zm ?_;refine M1 ?_;intro k_ ja;refine Ay ?_;intro g_ c_ gh;refine H0 ?_;refine FX ?_;intro g_ c_ fk;refine H0 ?_;refine xR ?_;intro g_ c_ fk;refine H0 ?_;refine vi ?_;intro g_ c_ fk;refine Ni ?_;(with_reducible apply a_.nK);(iterate 5 exact rfl);exact ag;exact rfl;exact rfl;refine J0 ?_;(with_reducible apply a_.jE 9);exact rfl;exact rfl;exact ah;(iterate 6 exact rfl);exact ab;refine Mp ?_;show a_ .held _ _ _ [_,_,_,_,_] _ _;refine oz ?_;(with_reducible apply a_.fa 7);(iterate 8 exact rfl);exact ab;exact ab;refine J4 ?_;intro k_ ja;refine DR ?_;intro g_ c_ gh;refine ax ?_;refine vH ?_;intro g_ c_ fk;refine zX (xn) ?_;refine By ?_;intro g_ c_ fk;refine zs ?_;refine F_ ?_;refine jB ?_;(iterate 3 refine zm ?_);refine zj ?_;(with_reducible apply a_.wD 9);(iterate 8 exact rfl);exact ab;exact ab;(with_reducible apply a_.pf 9 (m+1) ((i:Int)+1).toNat);(iterate 8 exact rfl);omega;(simp only[e8,cM];omega);(intro h_;have:=congrArg dW h_;simp only[e8,cM,bU] at this;omega);refine aB ?_;refine kh ?_;refine AW.lE 23 ?_)
       refine Stop.go ?_
       refine AW.rV 9 (eW g).toNat (m+1+((τ.wl (eW g).toNat).length - ((i:Int)+1).toNat)) rfl ?_ ?_
       ·simp only[e8,bV,dI,cQ,cM];omega
       (conv=>rhs;simp only[e8,jC,cM])
       have E3:=Ff UL rJ hR
       have mb:0≤eW g∧(eW g).toNat<τ.nw:=by have:=ix KW;omega
       have Vc:∀x∈τ.cl j,-x∈τ.ll 0:=fun x hx=>by
        by_cases e:x=c0 (τ.cl j)
        ·rw[e,← mE];exact IU
        ·exact iT x hx e
       (conv=>rhs;rw[E3])
       (refine zo ?_;refine O9 ?_;show a_ .held _ _ _ [_,_,_,_,_,_] _ _;refine xP ?_;refine Be ?_;refine J4 ?_;intro k_ ja;refine DR ?_;intro g_ c_ gh;refine O_ ?_;intro g_ c_;show a_ .held _ _ _ [_] _ _;refine uW ?_;intro k_ ja;refine J0 ?_;refine Gf ?_;intro g_ c_ fk;(with_reducible apply a_.gA);(iterate 4 exact rfl);exact ag;(iterate 3 exact rfl);refine rz ?_;refine zq ?_;refine zm ?_;refine xL ?_;(iterate 2 refine zJ ?_))
       (apply gS ((({τ with cl:=τ.cl,hw:=fb τ.hw (eW g).toNat (jn (m+1+((τ.wl (eW g).toNat).length - ((i:Int)+1).toNat)) (τ.hw (eW g).toNat)),wl:=fb τ.wl (eW g).toNat ((τ.wl (eW g).toNat).take m++(τ.wl (eW g).toNat).drop i)},(j:Int)):SR×Int)) (⟨hQ.inv.hw _,hQ.ext.Eo fun _=> .refl _,.inr ⟨j,hj,rfl,Vc⟩⟩);((exact gn.one (.tmp rfl rfl)));((refine⟨.fh (by first|rfl|exact fT _ mb.2 _),?_⟩;exact vw));((exact S0));exact rfl)
      ·have xn:=kP (s:={τ with cl:=τ.cl,wl:=fb τ.wl (eW g).toNat ((τ.wl (eW g).toNat).set m (j:Int))}) (r:=0) kM rN rU s9 (by rw[if_neg Gx,if_neg IU])
       simp only[hX,hZ] at xn
       have hp:=qC {τ with cl:=τ.cl,wl:=fb τ.wl (eW g).toNat ((τ.wl (eW g).toNat).set m (j:Int))} (τ.cl j)[(0:Int).toNat] (j:Int) (by obtain⟨_,_,_⟩:=s9;omega) (by obtain⟨_,_,_⟩:=s9;show _<(τ.value.length:Int)∧_<(τ.value.length:Int);omega) (by show τ.level.length=τ.value.length;omega) (by show τ.reason.length=τ.value.length;omega) (by show(τ.ll 0).length≤_;omega) (by show τ.marks.length≤_;rw[hP.ext.marks];exact OA)
       simp only[hX,hZ] at hp
       (refine Of ?_;show a_ .held _ _ _ [_,_,_,_,_,_,_,_,_,_,_] _ _;refine OJ ?_;refine zm ?_;refine M1 ?_;intro k_ ja;refine Ay ?_;intro g_ c_ gh;refine H0 ?_;refine FX ?_;intro g_ c_ fk;refine H0 ?_;refine xR ?_;intro g_ c_ fk;refine H0 ?_;refine vi ?_;intro g_ c_ fk;refine Ni ?_;(with_reducible apply a_.nK);(iterate 5 exact rfl);exact ag;exact rfl;exact rfl;refine J0 ?_;(with_reducible apply a_.jE 9);exact rfl;exact rfl;exact ah;(iterate 6 exact rfl);exact ab;refine Mp ?_;show a_ .held _ _ _ [_,_,_,_,_] _ _;refine oz ?_;(with_reducible apply a_.fa 7);(iterate 8 exact rfl);exact ab;exact ab;refine J4 ?_;intro k_ ja;refine DR ?_;intro g_ c_ gh;refine ax ?_;refine vH ?_;intro g_ c_ fk;refine zX (xn) ?_;refine By ?_;intro g_ c_ fk;refine T2 ?_;show a_ .held _ _ _ [_,_,_,_,_,_] _ _;refine oz ?_;(with_reducible apply a_.fa 7);(iterate 8 exact rfl);exact ab;exact ab;refine zm ?_;refine J4 ?_;intro k_ ja;refine DR ?_;intro g_ c_ gh;refine ax ?_;refine J4 ?_;refine AR.gY (i:=7) rfl aI rfl aI ?_;intro g_ c_ fk;(with_reducible apply a_.kc (hf:=hp));(with_reducible assumption);(iterate 3 exact rfl);exact aq;exact ak;(intro x_;exact rfl);exact rfl;exact al;(intro x_;exact al);(intro x_;exact rfl);exact rfl;(intro x_ pI);refine J1 ?_;refine wz ?_;refine C4 ?_;refine yy ?_)
       have Tb:=hQ.push hj r9 jM iT (by rw[← mE];exact Gx) (by rw[← mE];exact IU) x_
       rw[show c0 (SR.cl {τ with cl:=τ.cl} j)=(τ.cl j)[(0:Int).toNat] from mE.symm] at Tb
       exact⟨(fL {τ with cl:=τ.cl,wl:=fb τ.wl (eW g).toNat ((τ.wl (eW g).toNat).set m (j:Int))} (τ.cl j)[(0:Int).toNat] (j:Int) x_,m+1,i+1),Tb,by show _ - (i+1)<_ - i;omega,fy rfl (by(refine aD ?_;(iterate 5 refine aD ?_);(iterate 2 refine aC ?_);exact trivial)) (by(refine⟨.box _ rfl ?_,?_⟩;(iterate 3 refine aE ?_);refine aD ?_;refine aE ?_;refine aD ?_;(iterate 2 refine aE ?_);(iterate 3 refine aD ?_);refine aE ?_;refine aD ?_;(iterate 2 refine aG ?_);exact trivial;(iterate 3 refine aH ?_);(iterate 7 refine aF ?_);exact trivial)) rfl⟩
  ·obtain rfl:i=(σ.wl (eW g).toNat).length:=by omega
   have hF:=hP.fin
   have Lq:=hP.ext
   have Gy:=hP.gl.1
   have mb:0≤eW g∧(eW g).toNat<τ.nw:=by have:=ix KW;omega
   (refine jB ?_;refine pW ?_;refine zo ?_;refine vj ?_;(with_reducible apply AW.uu 27 9 (eW g).toNat m);exact rfl;omega;refine aB ?_;refine O9 ?_;show a_ .held _ _ _ [_,_,_,_,_,_] _ _;refine xP ?_;refine Be ?_;refine J4 ?_;intro k_ ja;refine DR ?_;intro g_ c_ gh;refine O_ ?_;intro g_ c_;show a_ .held _ _ _ [_] _ _;refine uW ?_;intro k_ ja;refine J0 ?_;refine Gf ?_;intro g_ c_ fk;(with_reducible apply a_.gA);(iterate 4 exact rfl);exact ag;(iterate 3 exact rfl);refine wz ?_;refine C4 ?_;refine oF ?_;refine IG ?_;refine zj ?_;refine a_.fe rfl rfl rfl ?_;refine a_.b_ 94 3 8 rfl rfl rfl rfl ?_;(with_reducible apply a_.gv);(iterate 5 exact rfl);exact ag;(iterate 3 exact rfl);(with_reducible assumption);refine rM ?_)
   have hle:σ.head.toNat<n:=by omega
   exact⟨{τ with hw:=fb τ.hw (eW g).toNat (jn m (τ.hw (eW g).toNat)),wl:=fb τ.wl (eW g).toNat ((τ.wl (eW g).toNat).take m),head:=τ.head+1},⟨hF _,Lq.Eo fun _=> .refl _⟩,by show n - (τ.head+1).toNat<n - σ.head.toNat;rw[Ym];omega,fy rfl (by(exact py)) (by(refine Zs ?_;(iterate 3 refine⟨.ff rfl (by first|rfl|exact fT _ mb.2 _),?_⟩);(iterate 7 refine aF ?_);exact trivial)) rfl⟩
 ·have AD:σ.head=((σ.ll 0).length:Int):=by omega
  ((iterate 2 refine zo ?_);(with_reducible apply AW.gk);exact rfl;exact rfl;kernel_rfl;(with_reducible assumption);refine oF ?_;refine IG ?_;refine Eb ?_;refine Gk ?_;refine pW ?_;refine vj ?_;refine jB ?_;refine kH ?_)
  (apply gS (((σ,-1):SR×Int)) (⟨hi,hx,.inl ⟨rfl,AD⟩⟩);((exact gn.one (.tmp rfl rfl)));((exact Bb));((exact J2));exact rfl)
end Go.Ab
