/- The solver: literals checked; a clause added, walked. -/
import Derived.Test.YtigjjjpcjnifhaaGreatDoorAvS9
import Derived.Test.YtigjjjpcjnifhaaGreatDoorAbZ
import Derived.Test.YtigjjjpcjnifhaaGreatDoorAbL3
import Derived.Test.YtigjjjpcjnifhaaGreatDoorAvC2
set_option linter.unusedSimpArgs false
set_option linter.unusedVariables false
open Nat renaming reduceBEq→di,le_refl→aP
open List renaming getElem_mem→cZ,pairwise_map→dB,mem_map→bx,length_map→a6,map_append→cV,mem_append→bX,length_append→bW,length_singleton→dC,mem_singleton→cq
open Int renaming neg_neg→dv
namespace Go.Ab
open Go Go.Proofs
open Nat (reduceAdd reduceSub)
set_option maxRecDepth 20000
set_option maxHeartbeats 8000000
attribute [local irreducible] gx AW a_ gb fq AR fz fk fJ fX kp lh eQ
theorem BJ (n:Nat) (s:SR) (l:List Int) (hn:n≤20000) (hv:s.value.length=n+1) (hl:∀x∈l,Lit n x):og Tryz.prog 46 11 (gV s) [.ptr 0 0,.pv (jI l)] (gV s) (fh true):=by
 simp only[gV,gW]
 refine og.enter (n:=17) Tryz.func46 rfl rfl rfl rfl rfl (by decide) rfl rfl fun g fD fB=>?_;refine sF ?_
 refine AW.jE 1 rfl fun hlen=>?_
 (refine zq ?_;refine kM ?_;refine NX ?_;refine a_.sub rfl rfl rfl rfl rfl aJ ?_;refine a_.rM rfl rfl rfl rfl ?_;refine Q0 ?_;(with_reducible apply a_.gn);(iterate 5 exact rfl);exact ag;(iterate 3 exact rfl);(with_reducible assumption);refine mw ?_;refine ta ?_;refine a_.lE rfl rfl rfl ?_;(with_reducible apply a_.inline (hf:=Tryz.func20));(with_reducible assumption);(iterate 10 exact rfl);intro g_ fD fB;refine Q0 ?_;refine zq ?_;refine kM ?_;refine ka ?_;refine a_.j7 rfl rfl rfl ?_;(with_reducible apply a_.inline (hf:=Tryz.func42));(with_reducible assumption);(iterate 10 exact rfl);intro g_ fD fB;refine Q0 ?_;refine y_ ?_;refine n_ ?_)
 (refine Q0 ?_;apply AW.gN [7,0,1,1006,1005,1004,1000,1001,2014,2013,2005,2004,2000,2001,3000] [11,0,1,2,3,4,5,6,7,8,9,10] (fun k:Nat=>([(8,eV k)]:List (Nat×AV))) (fun k:Nat=>([]:List (Nat×Option Ob))) (fun k:Nat=>k≤l.length) (fun k:Nat=>l.length - k) (0);(conv=>lhs;simp only[Nf.nN,Nf.all,di,reduceAdd,reduceSub]);(all_goals skip))
 ·exact Nat.zero_le _
 ·exact fp rfl (by(refine aD ?_;refine aD ?_;refine aG ?_;(iterate 2 refine aC ?_);refine aG ?_;refine aD ?_;refine aG ?_;(iterate 2 refine aC ?_);refine aG ?_;refine aC ?_;refine aD ?_;refine aC ?_;refine aG ?_;refine aC ?_;exact trivial)) (by(refine⟨.box _ rfl ?_,?_⟩;refine aD ?_;exact trivial;refine⟨.box _ rfl ?_,?_⟩;(iterate 3 refine aE ?_);refine aD ?_;refine aE ?_;refine aD ?_;(iterate 2 refine aE ?_);(iterate 3 refine aD ?_);refine aE ?_;refine aD ?_;(iterate 2 refine aG ?_);exact trivial;(iterate 3 refine aF ?_);refine aH ?_;(iterate 2 refine aF ?_);refine aH ?_;refine aF ?_;refine aH ?_;refine aF ?_;exact trivial)) rfl
 rintro k hk
 by_cases fm:k<l.length
 ·obtain⟨b1,b2,b3⟩:=hl _ (cZ fm)
  have b4:¬l[k]< -((s.value.length:Int) - 1):=by omega
  have b5:¬((s.value.length:Int) - 1)<l[k]:=by omega
  (refine zq ?_;refine zs ?_;refine zd ?_;refine Q5 ?_;refine ka ?_;refine uO ?_;refine a_.j7 rfl rfl rfl ?_;(iterate 2 refine zm ?_);refine aA ?_;refine zr ?_;(with_reducible apply a_.inline (hf:=Tryz.func80));(with_reducible assumption);(iterate 10 exact rfl);intro g_ fD fB;refine Q0 ?_;refine zq ?_;refine kM ?_;refine ka ?_;refine Oo ?_;refine kF rfl rfl ?_;refine mw ?_;refine zk ?_;refine uB ?_;refine Ba ?_)
  exact⟨k+1,by omega,by omega,fp rfl (by(refine aD ?_;refine aD ?_;refine aG ?_;(iterate 2 refine aC ?_);refine aG ?_;refine aD ?_;refine aG ?_;(iterate 2 refine aC ?_);refine aG ?_;refine aC ?_;refine aD ?_;refine aC ?_;refine aG ?_;refine aC ?_;exact trivial)) (by(refine⟨.box _ rfl ?_,?_⟩;refine aD ?_;exact trivial;refine⟨.box _ rfl ?_,?_⟩;(iterate 3 refine aE ?_);refine aD ?_;refine aE ?_;refine aD ?_;(iterate 2 refine aE ?_);(iterate 3 refine aD ?_);refine aE ?_;refine aD ?_;(iterate 2 refine aG ?_);exact trivial;(iterate 3 refine aF ?_);refine aH ?_;(iterate 2 refine aF ?_);refine aH ?_;refine aF ?_;refine aH ?_;refine aF ?_;exact trivial)) rfl⟩
 ·(refine lU ?_;refine ko ?_;refine kQ ?_;refine kF rfl rfl ?_;refine Q0 ?_;refine AL ?_;refine kF rfl rfl ?_;refine Q0 ?_;refine a_.ID rfl rfl rfl ?_;refine kQ ?_)
  (apply iT;((exact gk.one (.tmp rfl rfl)));((exact Al));((exact Q2));exact rfl)
theorem Mr {n:Nat} {s:SR} (v:s.value=kW n (s.ll 0)) (ht:jG n (s.ll 0)) (hn:n≤20000) {x:Int} (hx:Lit n x) {r:Int} (hr:r=if x∈s.ll 0 then 1 else if -x∈s.ll 0 then -1 else 0):og Tryz.prog 48 11 (gV s) [.ptr 0 0,eV x] (gV s) (eV r):=by
 have hl:s.value.length=n+1:=by rw[v,j5]
 have:=M8 s x (by obtain⟨_,_,_⟩:=hx;omega) (by obtain⟨_,_,_⟩:=hx;omega) (by rw[v];exact BM)
 rw[v,IC hx ht,← hr] at this
 exact this
theorem zz {n:Nat} {s:SR} (hs:fR n s) {x:Int} (hx:Lit n x) {r:Int} (hr:r=if x∈s.ll 0 then 1 else if -x∈s.ll 0 then -1 else 0) (a:Int):og Tryz.prog 48 11 (gV {s with added:=a}) [.ptr 0 0,eV x] (gV {s with added:=a}) (eV r):=
 Mr (s:={s with added:=a}) hs.val hs.ix hs.hn hx hr
theorem zg (n:Nat) (F:List (List Int)) (k:Nat) (s:SR) (hS:lR n F k s) (hk:k<60000) (c:List Int) (hc:∀x∈c,Lit n x) (iR:c.length≤1000000):tP Tryz.prog 23 11 (gV s) [.ptr 0 0,.pv (jI c)] (fun q:SR=>lR n (F++ [c]) (k+1) q) (fun q=>gV q) (fun _=>fh true):=by
 have hs:=hS.inv
 have qR:=hs.hn
 have ke:=hs.ix.len
 have z8:=hS.rD
 have Ci:s.value.length=n+1:=by rw[hs.val,j5]
 have kj:=BJ n s c qR Ci hc
 have GQ:=wD {s with added:=s.added+1} 0 (by show(s.marks.length:Int)≤0;rw[hS.marks];simp)
 have Tm:=hS.added
 have Za:¬(60000:Int)≤s.added:=by omega
 simp only[gV,gW] at kj GQ ⊢
 refine tP.enter (n:=84) Tryz.func23 rfl rfl rfl rfl rfl (by decide) rfl (fun _=>rfl) fun g fD fB=>?_;refine sF ?_
 refine AW.jE 1 rfl fun hlen=>?_
 (refine zq ?_;refine pz ?_;refine uo ?_;refine zm ?_;refine zX (kj) ?_;refine mB ?_;refine B9 ?_;refine Tu ?_;refine a_.c_ 94 4 9 rfl rfl rfl rfl ?_;refine Cw ?_;refine a_.geq rfl rfl rfl rfl rfl ?_;refine a_.gO rfl rfl rfl rfl rfl rfl ?_;refine ph ?_;refine ko ?_;refine oB ?_;refine a_.c_ 94 4 9 rfl rfl rfl rfl ?_;refine zb ?_;refine zj ?_;refine a_.fj rfl rfl rfl ?_;refine a_.c_ 94 4 9 rfl rfl rfl rfl ?_;(with_reducible apply a_.gn);(iterate 5 exact rfl);exact ag;(iterate 3 exact rfl);(with_reducible assumption);refine mw ?_;refine zq ?_;refine tn ?_;refine zX (GQ) ?_;refine mB ?_;refine zd ?_;refine y_ ?_;refine n_ ?_)
 (refine Q0 ?_;apply AW.gN [31,30,0,1,1000] [0,1,2,3,4,5,6,7,8,9,10] (fun q:List Int×Nat=>([(5,.own 11 3 1 (q.1.map encI)),(32,eV q.2)]:List (Nat×AV))) (fun q:List Int×Nat=>([(11,some .row)]:List (Nat×Option Ob))) (fun q:List Int×Nat=>oU s c q.1 q.2) (fun q:List Int×Nat=>c.length - q.2) ((([]:List Int),(0:Nat)));(conv=>lhs;simp only[Nf.nN,Nf.all,di,reduceAdd,reduceSub]);(all_goals skip))
 ·exact .start
 ·exact fp rfl (by(refine⟨.jt _ _ _ rfl rfl,?_⟩;(iterate 2 refine aD ?_);refine aG ?_;refine aC ?_;refine aG ?_;refine aC ?_;exact trivial)) (by(refine⟨.iF rfl,?_⟩;refine⟨.box _ rfl ?_,?_⟩;(iterate 3 refine aE ?_);refine aD ?_;refine aE ?_;refine aD ?_;(iterate 2 refine aE ?_);(iterate 3 refine aD ?_);refine aE ?_;refine aD ?_;(iterate 2 refine aG ?_);exact trivial;(iterate 3 refine aF ?_);refine aH ?_;(iterate 2 refine aF ?_);refine aH ?_;refine aF ?_;refine aH ?_;refine aF ?_;exact trivial)) rfl
 rintro⟨l,i⟩ hA
 simp only at hA
 have hi:=hA.hi
 have u7:l.length≤1000000:=by
  have:=jN (n:=2*n+2) (l:=l.map eQ) (by
   unfold List.Nodup
   rw[dB]
   exact hA.nd.imp_of_mem fun {a b} ha hb qh e=>qh (gU (hc a (hA.sub a ha).1) (hc b (hA.sub b hb).1) (by rw[e]))) fun v hv=>by
   obtain⟨a,ha,rfl⟩:=bx.1 hv
   have:=hY (hc a (hA.sub a ha).1)
   omega
  simp only[a6] at this
  omega
 by_cases fm:i<c.length
 ·have t_:(i:Int).toNat<c.length:=by omega
  obtain⟨x,hx⟩:∃x,x=c[i]:=⟨_,rfl⟩
  have sD:=hc _ (cZ fm)
  have ve:c[i]∈c:=cZ fm
  rw[← hx] at sD ve
  have Lp: -1000000≤x∧x≤1000000:=by obtain⟨_,_,_⟩:=sD;omega
  have Jf:=np c (-x)
  have G8:=np l x
  by_cases Ac: -x∈c
  ·have hT:=hS.Td hc (.inl ⟨x,ve,Ac⟩)
   rw[decide_eq_true Ac] at Jf
   (refine pZ ?_;refine aA ?_;refine zr ?_;refine pz ?_;(with_reducible apply AW.vU 9);(rw[← hx]);refine ko ?_;(iterate 2 refine zm ?_);refine a_.neg rfl rfl rfl aJ ?_;refine zA (Jf) ?_;refine zm ?_;(iterate 6 refine a_.gg rfl rfl rfl rfl rfl rfl rfl ?_);refine AK ?_;refine ko ?_;refine xv ?_;refine wu ?_)
   (apply gL (({s with added:=s.added+1}:SR)) (hT);((exact gk.one (.tmp rfl rfl)));((exact Al));((exact Q2));exact rfl)
  ·rw[decide_eq_false Ac] at Jf
   by_cases SE:x∈s.ll 0
   ·have hT:=hS.Td hc (.inr ⟨x,ve,SE⟩)
    have uD:=zz hs sD (r:=1) (if_pos SE).symm (s.added+1)
    simp only[gV,gW] at uD
    (refine pZ ?_;refine aA ?_;refine zr ?_;refine pz ?_;(with_reducible apply AW.vU 9);(rw[← hx]);refine Pl ?_;refine th ?_;refine ko ?_;refine xv ?_;refine wu ?_)
    (apply gL (({s with added:=s.added+1}:SR)) (hT);((exact gk.one (.tmp rfl rfl)));((exact Al));((exact Q2));exact rfl)
   ·by_cases PO: -x∈s.ll 0
    ·have uD:=zz hs sD (r:= -1) (by rw[if_neg SE,if_pos PO]) (s.added+1)
     have qP:=hA.skip fm (.inr (by rw[← hx];exact PO))
     simp only[gV,gW] at uD
     (refine pZ ?_;refine aA ?_;refine zr ?_;refine pz ?_;(with_reducible apply AW.vU 9);(rw[← hx]);refine Pl ?_;refine zd ?_;refine GS ?_;refine uK ?_;refine zm ?_;refine Ck ?_;refine a_.eql rfl rfl rfl rfl rfl ?_;refine zm ?_;(iterate 4 refine a_.gg rfl rfl rfl rfl rfl rfl rfl ?_);refine a_.gO rfl rfl rfl rfl rfl rfl ?_;refine rK ?_;refine rj ?_)
     exact XZ
    ·have uD:=zz hs sD (r:=0) (by rw[if_neg SE,if_neg PO]) (s.added+1)
     simp only[gV,gW] at uD
     by_cases iJ:x∈l
     ·rw[decide_eq_true iJ] at G8
      have qP:=hA.skip fm (.inl (by rw[← hx];exact iJ))
      (refine pZ ?_;refine aA ?_;refine zr ?_;refine pz ?_;(with_reducible apply AW.vU 9);(rw[← hx]);refine RZ ?_;refine a_.jz rfl rfl rfl rfl rfl rfl ?_;refine rK ?_;refine rj ?_)
      exact XZ
     ·rw[decide_eq_false iJ] at G8
      have qP:=hA.add fm (by rw[← hx];exact iJ) (by rw[← hx];exact SE) (by rw[← hx];exact PO)
      rw[← hx] at qP
      (refine pZ ?_;refine aA ?_;refine zr ?_;refine pz ?_;(with_reducible apply AW.vU 9);(rw[← hx]);refine RZ ?_;refine AK ?_;refine qs ?_;refine a_.fT rfl rfl rfl ?_;refine zm ?_;(with_reducible apply a_.nr);(iterate 5 exact rfl);exact ag;exact rfl;exact rfl;refine Q0 ?_;(with_reducible apply a_.fI);exact rfl;exact ah;(iterate 9 exact rfl);exact aa;refine Q0 ?_;refine yB ?_;refine rj ?_)
      exact⟨((l++ [x],i+1):List Int×Nat),qP,by show c.length - (i+1)<c.length - i;omega,fp rfl (by(refine⟨.e9 (by first|rfl|(rw[cV];rfl)) rfl,?_⟩;refine⟨.fg (by first|rfl|(rw[cV];rfl)),?_⟩;refine⟨.fg (by first|rfl|(rw[cV];rfl)),?_⟩;refine⟨.ib (by first|rfl|(rw[cV];rfl)),?_⟩;refine aC ?_;refine⟨.ib (by first|rfl|(rw[cV];rfl)),?_⟩;refine aC ?_;exact trivial)) (by(refine aF ?_;refine⟨.box _ rfl ?_,?_⟩;refine⟨.e9 (by first|rfl|(rw[cV];rfl)) rfl,?_⟩;refine⟨.e9 (by first|rfl|(rw[cV];rfl)) rfl,?_⟩;refine⟨.e9 (by first|rfl|(rw[cV];rfl)) rfl,?_⟩;refine⟨.fg (by first|rfl|(rw[cV];rfl)),?_⟩;refine⟨.e9 (by first|rfl|(rw[cV];rfl)) rfl,?_⟩;refine⟨.fg (by first|rfl|(rw[cV];rfl)),?_⟩;refine⟨.e9 (by first|rfl|(rw[cV];rfl)) rfl,?_⟩;refine⟨.e9 (by first|rfl|(rw[cV];rfl)) rfl,?_⟩;refine⟨.fg (by first|rfl|(rw[cV];rfl)),?_⟩;refine⟨.fg (by first|rfl|(rw[cV];rfl)),?_⟩;refine⟨.fg (by first|rfl|(rw[cV];rfl)),?_⟩;refine⟨.e9 (by first|rfl|(rw[cV];rfl)) rfl,?_⟩;refine⟨.fg (by first|rfl|(rw[cV];rfl)),?_⟩;refine⟨.ib (by first|rfl|(rw[cV];rfl)),?_⟩;refine⟨.ib (by first|rfl|(rw[cV];rfl)),?_⟩;exact trivial;(iterate 3 refine aF ?_);refine⟨.e8 rfl (by first|rfl|(rw[cV];rfl)),?_⟩;(iterate 2 refine aF ?_);refine⟨.e8 rfl (by first|rfl|(rw[cV];rfl)),?_⟩;refine aF ?_;refine⟨.e8 rfl (by first|rfl|(rw[cV];rfl)),?_⟩;refine aF ?_;exact trivial)) rfl⟩
 ·obtain rfl:i=c.length:=by omega
  by_cases h0:l=[]
  ·subst h0
   have hT:=hS.empty hc hA
   (refine Pj ?_;refine AW.mu rfl rfl ?_;refine qs ?_;refine oB ?_;refine a_.c_ 94 5 10 rfl rfl rfl rfl ?_;(with_reducible apply a_.gn);(iterate 5 exact rfl);exact ag;(iterate 3 exact rfl);(with_reducible assumption);refine Q0 ?_;refine E_ ?_;refine zq ?_;refine kQ ?_)
   (apply gL (({s with added:=s.added+1,broken:=true}:SR)) (hT);((exact gk.one (.tmp rfl rfl)));((exact Al));((exact Q2));exact rfl)
  ·have RW:0<l.length:=List.length_pos_iff.2 h0
   have nv:(0:Int).toNat<l.length:=show 0<_ by omega
   by_cases h1:l.length=1
   ·have e1:=IS h1 nv
    have EY:=hc _ (hA.sub _ (cZ nv)).1
    have hT:=fun h:Value=>hS.unit hc (by rw[← e1];exact hA) h
    have JX:=qa {s with added:=s.added+1} l[(0:Int).toNat] (-1) (by obtain⟨_,_,_⟩:=EY;omega) (by obtain⟨_,_,_⟩:=EY;show _<(s.value.length:Int)∧_<(s.value.length:Int);omega) (by show s.level.length=s.value.length;rw[hs.lvl,Ci]) (by show s.reason.length=s.value.length;rw[hs.od,Ci]) (by show(s.ll 0).length≤_;omega) (by show s.marks.length≤_;rw[hS.marks];simp)
    simp only[gV,gW] at JX
    (refine Pj ?_;refine zk ?_;refine ko ?_;refine F1 ?_;refine zc ?_;refine Pf ?_;show a_ .held _ _ _ [_,_,_,_,_] _ _;refine tn ?_;refine a_.fT rfl rfl rfl ?_;refine GF ?_;refine Q4 ?_;intro k_ iL;refine C2 ?_;intro g_ b_ f_;refine au ?_;refine wK ?_;intro g_ b_ fe;(with_reducible apply a_.jU (hf:=JX));(with_reducible assumption);(iterate 3 exact rfl);exact aq;exact ak;(intro x_;exact rfl);exact rfl;exact al;(intro x_;exact al);(intro x_;exact rfl);exact rfl;(intro x_ pq);refine mB ?_;refine FM ?_;refine gT ?_;refine ic ?_;refine zq ?_;refine kQ ?_)
    (apply gL ((fF {s with added:=s.added+1} l[(0:Int).toNat] (-1) x_:SR)) (hT x_);((exact gk.one (.tmp rfl rfl)));((exact Al));((exact Q2));exact rfl)
   ·have h2:2≤l.length:=by omega
    (refine Pj ?_;refine zk ?_;refine ko ?_;refine F1 ?_;refine zk ?_;refine AW.Nh 15 ?_)
    refine Stop.go ?_
    refine AW.xM 7 11 s.nc 5 (us:=l) rfl rfl rfl rfl (hs.fresh s.nc (aP _)).2 fun v_ Jc=>?_
    refine aB ?_
    have hT:=fun h1 h3:Value=>hS.TC hc hk hA h2 v_ h1 h3
    have kd:∀x∈l,Lit n x:=fun x hx=>hc x (hA.sub x hx).1
    have m0:=kd _ (jR h2).1
    have m1:=kd _ (jR h2).2
    have fW:c0 l≠c1 l:=fun e=>by
     rw[show c0 l=l[0] from fy aJ,show c1 l=l[1] from fy aJ] at e
     have:=(List.getElem_inj hA.nd (h₀:=by omega) (h₁:=by omega)).1 e
     omega
    have i0:=hY m0
    have i1:=hY m1
    have Ap:(l.drop 2).length≤1000000:=by rw[List.length_drop];omega
    have zD:=hs.nw
    have Uq:=hs.Fj m0
    have Vx:=hs.Fj m1
    have hid:eQ (c0 l)≠eQ (c1 l):=fun e=>fW (gU m0 m1 (by rw[e]))
    obtain⟨_,_,_⟩:=m0
    obtain⟨_,_,_⟩:=m1
    have sH:=vO {s with added:=s.added+1,hc:=eZ s.hc s.nc v_,cl:=eZ s.cl s.nc l} (c0 l) (c1 l) (l.drop 2) (by show eZ s.cl s.nc l s.nc=_;rw[eW];exact IZ h2) hid (by show 0≤eQ (c0 l)∧_<s.nw;omega) (by show 0≤eQ (c1 l)∧_<s.nw;omega) aJ aJ (by show s.nc≤_;omega) (by show(s.wl _).length≤_;omega) (by show(s.wl _).length≤_;omega) (by show s.nw≤_;omega) Ap
    simp only[gV,gW,eW,jP] at sH
    rw[iz s.nc s.hc v_]
    (refine AW.region ?_;refine FU ?_;(with_reducible apply a_.jU (hf:=sH));(with_reducible assumption);(iterate 3 exact rfl);exact aq;exact ak;(intro x_;exact rfl);exact rfl;exact al;(intro x_;exact al);(intro x_;exact rfl);exact rfl;(intro x_ pq);refine Q1 ?_;refine E_ ?_;refine zq ?_;refine kQ ?_)
    (apply gL ((kS {s with added:=s.added+1} l v_ x_.1 x_.2:SR)) (hT x_.1 x_.2);((exact gk.one (.tmp rfl rfl)));((exact Al));((exact Q2));exact rfl)
end Go.Ab
/- What a search leaves;the invariant of its loop. -/
namespace Go.Ab
open Go Go.Proofs
structure kn (n:Nat) (F:List (List Int)) (A:List Int) (fuel:Nat) (t:SR) (k:Int):Prop where
 hn:n≤20000
 sC:oX F t.proof
 lits:∀c∈F++t.proof,∀x∈c,Lit n x
 plen:t.proof.length≤3 ^ n
 plen2:t.proof.length≤20000
 nd:∀c∈t.proof,c.Nodup
 res:(k=1∧∃L,t.model=kW n L∧t.core=[]∧xN n F A L)∨(k=2∧t.model=[]∧∃P,t.proof=P++ [t.core.map fun y=> -y]∧(∀y∈t.core,y∈A)∧t.core.Nodup∧∀y∈t.core,Lit n y)∨(k=0∧t.model=[]∧t.core=[]∧(fuel<3 ^ n∨20000<3 ^ n))
def LV (A:List Int) (s:SR):Prop:=∀l:Nat,A.length<l→l≤s.marks.length→∃x∈s.ll 0,e_ s x=(l:Int)
theorem Il {a:Nat}:∀{b:Nat} {S:List Int},(∀l:Nat,a<l→l≤b→(l:Int)∈S)→b≤a+S.length
 |0,_,_=>by omega
 |b+1,S,h=>by
  by_cases e:b+1≤a
  ·omega
  ·have hm:=h (b+1) aJ (aP _)
   have:=Il (b:=b) (S:=S.erase ((b+1:Nat):Int)) fun l h1 h2=>(List.mem_erase_of_ne aJ).2 (h l h1 aJ)
   rw[List.length_erase_of_mem hm] at this
   have:0<S.length:=List.length_pos_of_mem hm
   omega
section
variable {n:Nat} {F:List (List Int)} {A:List Int} {P0 N0:Nat} {s:SR} {met:Nat}
theorem LV.len (h:LV A s) (hs:fR n s):s.marks.length≤A.length+n:=by
 have:=Il (a:=A.length) (b:=s.marks.length) (S:=(s.ll 0).map (e_ s)) fun l h1 h2=>by
  obtain⟨x,hx,e⟩:=h l h1 h2
  exact bx.2 ⟨x,hx,e⟩
 rw[a6] at this
 have:=hs.ix.len
 omega
theorem LV.prop {t:SR} {r:Int} (h:LV A s) (hs:fR n s) (hp:Ho n s t r):LV A t:=fun l h1 h2=>by
 rw[hp.ext.marks] at h2
 obtain⟨x,hx,e⟩:=h l h1 h2
 obtain⟨ys,ell⟩:=hp.ext.ll
 exact⟨x,by rw[ell];exact bX.2 (.inl hx),by rw[rO hs hp.inv hp.ext hx];exact e⟩
theorem LV.JJ (hA:s.marks.length<A.length):LV A (hX s):=fun l h1 h2=>by
 have h2:l≤(s.marks++ [((s.ll 0).length:Int)]).length:=h2
 simp only[bW,dC] at h2
 omega
theorem LV.Is {x:Int} {hv:Value} (h:LV A s) (hi:fR n (fF (hX s) x (-1) hv)) (hs:fR n s) (hh:s.head=((s.ll 0).length:Int)) (hx:Lit n x) (h1:x∉s.ll 0) (h2: -x∉s.ll 0):LV A (fF (hX s) x (-1) hv):=fun l q1 q2=>by
 have ke:(fF (hX s) x (-1) hv).ll 0=s.ll 0++ [x]:=jA _ _ _ _
 have q2:l≤(s.marks++ [((s.ll 0).length:Int)]).length:=q2
 simp only[bW,dC] at q2
 by_cases e:l≤s.marks.length
 ·obtain⟨y,hy,ey⟩:=h l q1 e
  exact⟨y,by rw[ke];exact bX.2 (.inl hy),(iH (s:=hX s) (ov (n:=n) h1 h2 (.inl hy))).trans ey⟩
 ·obtain rfl:l=s.marks.length+1:=by omega
  refine⟨x,by rw[ke];simp,?_⟩
  rw[my (hs.mark hh) hx]
  show(((s.marks++ [_]).length:Nat):Int)=_
  simp
theorem LV.cut (h:LV A s) (hs:fR n s) {t:Nat} (ht:t<s.marks.length):∀l:Nat,A.length<l→l≤t→∃x∈(gh s t).ll 0,e_ s x=(l:Int):=fun l q1 q2=>by
 obtain⟨x,hx,e⟩:=h l q1 (by omega)
 obtain⟨i,hi,rfl⟩:=List.getElem_of_mem hx
 have:=(hs.l4 ht hi).1 (by omega)
 rw[(mC hs ht).1]
 exact⟨_,List.mem_take_iff_getElem.2 ⟨i,by omega,rfl⟩,e⟩
structure SJ (n:Nat) (F:List (List Int)) (A:List Int) (N0 fuel:Nat) (s:SR) (met:Nat):Prop where
 si:SI n F A 0 N0 s met
 lv:LV A s
 model:s.model=[]
 core:s.core=[]
 mf:met<fuel
 nd:∀c∈s.proof,c.Nodup
theorem Ie (hs:fR n s):EN s=s:=by
 have:=hs.hd
 show({s with head:=min s.head ((s.ll 0).length:Int)}:SR)=s
 rw[Int.min_eq_left aJ]
theorem lR.sj {k fuel:Nat} (h:lR n F k s) (hf:0<fuel):SJ n F A k fuel {s with core:=[],model:=[]} 0:=by
 have h2:lR n F k {s with core:=[],model:=[]}:=
  {inv:={hn:=h.inv.hn,ix:=h.inv.ix,val:=h.inv.val,lvl:=h.inv.lvl,od:=h.inv.od,hd:=h.inv.hd,nD:=h.inv.nD,ml:=h.inv.ml,cls:=h.inv.cls,fresh:=h.inv.fresh,nc:=h.inv.nc,nw:=h.inv.nw,wt:=h.inv.wt,qL:=h.inv.qL,qH:=h.inv.qH,two:=h.inv.two,pc:=h.inv.pc,pY:=h.inv.pY}
   jX:=⟨h.jX.lits,h.jX.cls,h.jX.o7,h.jX.bad,h.jX.sC,h.jX.rep⟩
   low:=h.low,marks:=h.marks,proof:=h.proof,added:=h.added,rD:=h.rD}
 exact⟨h2.si A,fun l _ h1=>by have h1:l≤s.marks.length:=h1;rw[h.marks] at h1;simp at h1;omega,rfl,rfl,hf,fun c hc=>by have hc:c∈s.proof:=hc;rw[h.proof] at hc;simp at hc⟩
theorem SJ.prop {N0 fuel:Nat} {t:SR} {r:Int} (h:SJ n F A N0 fuel s met) (hp:Ho n s t r):SJ n F A N0 fuel t met:=
 ⟨h.si.prop hp,h.lv.prop h.si.inv hp,by rw[hp.ext.model];exact h.model,by rw[hp.ext.core];exact h.core,h.mf,by rw[hp.ext.proof];exact h.nd⟩
theorem SJ.rI {N0 fuel:Nat} {j:Nat} {v:Value} {l:List Int} {tz:Int} {q:SR} (h:SJ n F A N0 fuel s met) (ha:rV n s j l tz) (hm:0<s.marks.length) (hj:j<s.nc) (hf:∀x∈s.cl j,-x∈s.ll 0) (hN:N0≤60000) (hfl:fuel≤30000) (hq:Ju (gh {s with hc:=eZ s.hc s.nc v,cl:=eZ s.cl s.nc l} tz.toNat) q):
  SI n F A 0 N0 q (met+1)∧LV A q∧q.model=[]∧q.core=[]∧∀c∈q.proof,c.Nodup:=by
 have hs:=h.si.inv
 obtain⟨O4,ht,fm⟩:=ha.lvl hs hm
 have Un:=h.lv.cut hs ht
 have iR:(gh {s with hc:=eZ s.hc s.nc v,cl:=eZ s.cl s.nc l} tz.toNat).cl (gh {s with hc:=eZ s.hc s.nc v,cl:=eZ s.cl s.nc l} tz.toNat).nc=l:=by
  show eZ s.cl s.nc l s.nc=l
  exact eW _ _ _
 have M0:=ha.back hs ⟨ht,fm⟩
 have jl:∀c∈s.proof++ [l],c.Nodup:=fun c hc=>by
  obtain⟨_,_,_,_,_,_,r5,_⟩:=M0
  rcases bX.1 hc with hc|hc
  ·exact h.nd c hc
  ·rw[cq.1 hc];exact r5
 rcases hq with ⟨p,hv,e1,e2⟩|⟨l',h1,h2,hv,e0,e1,e2,e3,e4,e5⟩
 ·rw[iR] at e1
  subst e1
  obtain⟨Fl,M3⟩:=h.si.OC ha hm hj hf hv
  have eq:q=fF (oN (gh s tz.toNat) [p]) p (-1) hv:=by
   rw[e2,iR]
   have e3:({gh {s with hc:=eZ s.hc s.nc v,cl:=eZ s.cl s.nc [p]} tz.toNat with hc:=eZ (eZ s.hc s.nc v) s.nc (.slice none 0 0),cl:=eZ (eZ s.cl s.nc [p]) s.nc [],proof:=s.proof++ [[p]]}:SR)=oN (gh s tz.toNat) [p]:=by
    obtain⟨f1,f2⟩:=hs.fresh s.nc (aP _)
    rw[jr,jr]
    have g1:eZ s.hc s.nc (.slice none 0 0)=s.hc:=by rw[← f2];exact vd _ _
    have g2:eZ s.cl s.nc []=s.cl:=by rw[← f1];exact vd _ _
    rw[g1,g2];rfl
   exact congrArg (fun z=>fF z p (-1) hv) e3
  rw[eq]
  refine⟨M3,fun l h1 h2=>?_,h.model,h.core,jl⟩
  have h2:l≤(s.marks.take tz.toNat).length:=h2
  rw[Fl] at h2
  simp at h2;omega
 ·rw[iR] at e0 e1 e2 e3 e4 e5
  have z8:s.nc+1≤100000:=by have:=h.si.rD;have:=h.mf;omega
  have M3:=h.si.Of ha hm hj hf e0 e1 e2 e3 e4 z8 v h1 h2 hv
  have eq:q=fF (kS (oN (gh s tz.toNat) l) l' v h1 h2) (c0 l') s.nc hv:=by
   rw[e5]
   have e3:({gh {s with hc:=eZ s.hc s.nc v,cl:=eZ s.cl s.nc l} tz.toNat with nc:=s.nc+1,cl:=eZ (eZ s.cl s.nc l) s.nc l',proof:=s.proof++ [l]}:SR)={oN (gh s tz.toNat) l with nc:=s.nc+1,hc:=eZ s.hc s.nc v,cl:=eZ s.cl s.nc l'}:=by
    rw[jr];rfl
   exact congrArg (fun z=>fF (jP (jP z (c0 l') s.nc h1) (c1 l') s.nc h2) (c0 l') (s.nc:Nat) hv) e3
  rw[eq]
  refine⟨M3,fun l2 q1 q2=>?_,h.model,h.core,jl⟩
  have q2:l2≤(s.marks.take tz.toNat).length:=q2
  rw[List.length_take] at q2
  obtain⟨x,hx,ex⟩:=Un l2 q1 (by omega)
  obtain⟨p,rest,r1,r2,r3,r4,_⟩:=M0
  have ec0:c0 l'=p:=by rw[e2,r1];rfl
  refine⟨x,by rw[jA];exact bX.2 (.inl hx),?_⟩
  rw[ec0]
  exact(iH (s:=kS (oN (gh s tz.toNat) l) l' v h1 h2) (ov (n:=n) r3 r4 (.inl hx))).trans ex
end
end Go.Ab
/- What the search's endings leave;the least free variable. -/
namespace Go.Ab
open Go Go.Proofs
theorem tD {v:List Int}:∀{m low:Nat},v.length - low=m→(∀i,low≤i→i<kl v low→v.getD i 0≠0)∧(kl v low<v.length→v.getD (kl v low) 0=0)
 |0,low,h=>by
  rw[wh aJ]
  exact⟨fun i h1 h2=>by omega,fun h1=>by omega⟩
 |m+1,low,h=>by
  have fm:low<v.length:=by omega
  by_cases h0:v[low]=0
  ·rw[tO fm h0]
   exact⟨fun i h1 h2=>by omega,fun _=>by rw[fy fm];exact h0⟩
  ·rw[tx fm h0]
   obtain⟨q1,q2⟩:=tD (v:=v) (m:=m) (low:=low+1) (by omega)
   refine⟨fun i h1 h2=>?_,q2⟩
   by_cases e:i=low
   ·subst e;rw[fy fm];exact h0
   ·exact q1 i aJ h2
theorem Cs {n:Nat} {L:List Int} {u:Nat} (hu:u≤n):(kW n L).getD u 0≠0↔(u:Int)∈L∨ -(u:Int)∈L:=by
 rw[sA L hu]
 by_cases h1:(u:Int)∈L
 ·simp [h1]
 ·by_cases h2: -(u:Int)∈L
  ·simp [h1,h2]
  ·simp [h1,h2]
section
variable {n:Nat} {F:List (List Int)} {A:List Int} {N0 fuel:Nat} {s t:SR} {met:Nat}
theorem SJ.plen (h:SJ n F A N0 fuel s met):s.proof.length=met∧met<3 ^ n:=⟨by have:=h.si.plen;omega,h.si.IP⟩
theorem vD {P:List (List Int)} {c:List Int} (h:∀d∈F++P,∀x∈d,Lit n x) (hc:∀x∈c,Lit n x):∀d∈F++(P++ [c]),∀x∈d,Lit n x:=fun d hd=>by
 rw[← List.append_assoc] at hd
 rcases bX.1 hd with hd|hd
 ·exact h d hd
 ·rw[cq.1 hd];exact hc
theorem DY {P:List (List Int)} {c:List Int} (h:∀d∈P,d.Nodup) (hc:c.Nodup):∀d∈P++ [c],d.Nodup:=fun d hd=>by
 rcases bX.1 hd with hd|hd
 ·exact h d hd
 ·rw[cq.1 hd];exact hc
theorem SJ.Vo (h:SJ n F A N0 fuel s met) (hf:fuel≤20000) (hc:sg (F++s.proof) Iq) (e1:t.proof=s.proof++ [([]:List Int).map fun y=> -y]) (e2:t.core=[]) (e3:t.model=[]):kn n F A fuel t 2:=by
 obtain⟨p1,p2⟩:=h.plen
 have:=h.mf
 exact
  {hn:=h.si.inv.hn
   sC:=by rw[e1];exact h.si.jX.sC.snoc (.inl (hc.cut (fun _ h=>h) fun _ h=>h.elim))
   lits:=by rw[e1];exact vD h.si.jX.lits fun x hx=>by simp at hx
   plen:=by rw[e1,bW,dC];omega
   plen2:=by rw[e1,bW,dC];omega
   nd:=by rw[e1];exact DY h.nd (by simp)
   res:=.inr (.inl ⟨rfl,e3,s.proof,by rw[e2];exact e1,by rw[e2];simp,by rw[e2];simp,by rw[e2];simp⟩)}
theorem SJ.V2 (h:SJ n F A N0 fuel s met) (hf:fuel≤20000) {x:Int} {core:List Int} (hb:Dd n s x core) (hm:s.marks.length<A.length) (LC:x∈A) (hx: -x∈s.ll 0) (e1:t.proof=s.proof++ [core.map fun y=> -y]) (e2:t.core=core) (e3:t.model=[]):kn n F A fuel t 2:=by
 obtain⟨p1,p2⟩:=h.plen
 have:=h.mf
 obtain⟨b1,b2,b3⟩:=hb.core h.si hm LC hx
 exact
  {hn:=h.si.inv.hn
   sC:=by rw[e1];exact h.si.jX.sC.snoc (hb.Wn h.si.jX hx)
   lits:=by
    rw[e1]
    refine vD h.si.jX.lits fun y hy=>?_
    obtain⟨z,hz,rfl⟩:=bx.1 hy
    obtain⟨_,_,_⟩:=b3 z hz
    exact⟨by omega,by omega,by omega⟩
   plen:=by rw[e1,bW,dC];omega
   plen2:=by rw[e1,bW,dC];omega
   nd:=by rw[e1];exact DY h.nd (by unfold List.Nodup;rw[dB];exact b2.imp fun qh e=>qh aJ)
   res:=.inr (.inl ⟨rfl,e3,s.proof,by rw[e2];exact e1,by rw[e2];exact b1,by rw[e2];exact b2,by rw[e2];exact b3⟩)}
theorem SI.VV (h:SI n F A 0 N0 s met) (jl:∀c∈s.proof,c.Nodup) (hf:fuel≤20000) (hm:met=fuel) (e1:t.proof=s.proof) (e2:t.core=[]) (e3:t.model=[]):kn n F A fuel t 0:=by
 have p1:=h.plen
 have p2:=h.IP
 exact
  {hn:=h.inv.hn
   sC:=by rw[e1];exact h.jX.sC
   lits:=by rw[e1];exact h.jX.lits
   plen:=by rw[e1];omega
   plen2:=by rw[e1];omega
   nd:=by rw[e1];exact jl
   res:=.inr (.inr ⟨rfl,e3,e2,.inl aJ⟩)}
theorem SJ.full (h:SJ n F A N0 fuel s met) {low:Nat} (hl:s.low=(low:Int)) (he:kl s.value low=s.value.length):∀v:Nat,1≤v→v≤n→(v:Int)∈s.ll 0∨ -(v:Int)∈s.ll 0:=fun v h1 h2=>by
 obtain⟨k,q1,q2,q3,q4⟩:=h.si.low
 have JU:k=low:=by omega
 subst JU
 by_cases e:v<k
 ·exact q4 v h1 e
 ·have:=(tD (v:=s.value) (low:=k) rfl).1 v aJ (by rw[he,h.si.inv.val,j5];omega)
  rw[h.si.inv.val] at this
  exact(Cs h2).1 this
theorem SJ.TH (h:SJ n F A N0 fuel s met) (hf:fuel≤20000) (hb:s.broken=false) (hh:s.head=((s.ll 0).length:Int)) (hA:A.length≤s.marks.length) (DW:∀v:Nat,1≤v→v≤n→(v:Int)∈s.ll 0∨ -(v:Int)∈s.ll 0) (e1:t.proof=s.proof) (e2:t.core=[]) (e3:t.model=s.value):kn n F A fuel t 1:=by
 obtain⟨p1,p2⟩:=h.plen
 have:=h.mf
 exact
  {hn:=h.si.inv.hn
   sC:=by rw[e1];exact h.si.jX.sC
   lits:=by rw[e1];exact h.si.jX.lits
   plen:=by rw[e1];omega
   plen2:=by rw[e1];omega
   nd:=by rw[e1];exact h.nd
   res:=.inl ⟨rfl,s.ll 0,by rw[e3];exact h.si.inv.val,e2,h.si.sat hb hh hA DW⟩}
theorem fR.Nu (h:fR n s) (k:Int):fR n {s with low:=k}:=
 {hn:=h.hn,ix:=h.ix,val:=h.val,lvl:=h.lvl,od:=h.od,hd:=h.hd,nD:=h.nD,ml:=h.ml,cls:=h.cls,fresh:=h.fresh,nc:=h.nc,nw:=h.nw,wt:=h.wt,qL:=h.qL,qH:=h.qH,two:=h.two,pc:=h.pc,pY:=h.pY}
theorem SJ.free (h:SJ n F A N0 fuel s met) {low:Nat} (hl:s.low=(low:Int)) (he:kl s.value low≠s.value.length):∃v:Nat,kl s.value low=v∧1≤v∧v≤n∧(v:Int)∉s.ll 0∧ -(v:Int)∉s.ll 0∧(∀u:Nat,0<u→u<v→(u:Int)∈s.ll 0∨ -(u:Int)∈s.ll 0)∧SJ n F A N0 fuel {s with low:=(v:Int)} met:=by
 obtain⟨k,q1,q2,q3,q4⟩:=h.si.low
 have JU:k=low:=by omega
 subst JU
 have Ny:s.value.length=n+1:=by rw[h.si.inv.val,j5]
 obtain⟨b1,b2⟩:=yX (v:=s.value) (low:=k) rfl (by omega)
 obtain⟨c1,c2⟩:=tD (v:=s.value) (low:=k) rfl
 have fm:kl s.value k<s.value.length:=by omega
 have hz:=c2 fm
 have kY:¬((kl s.value k:Int)∈s.ll 0∨ -(kl s.value k:Int)∈s.ll 0):=fun hh=>by
  have:=(Cs (n:=n) (L:=s.ll 0) (u:=kl s.value k) aJ).2 hh
  rw[← h.si.inv.val] at this
  exact this hz
 have jO:∀u:Nat,0<u→u<kl s.value k→(u:Int)∈s.ll 0∨ -(u:Int)∈s.ll 0:=fun u h1 h2=>by
  by_cases e:u<k
  ·exact q4 u h1 e
  ·have:=c1 u aJ h2
   rw[h.si.inv.val] at this
   exact(Cs aJ).1 this
 refine⟨kl s.value k,rfl,by omega,by omega,fun hh=>kY (.inl hh),fun hh=>kY (.inr hh),jO,?_⟩
 exact
  {si:=
    {inv:=h.si.inv.Nu _
     jX:=⟨h.si.jX.lits,h.si.jX.cls,h.si.jX.o7,h.si.jX.bad,h.si.jX.sC,h.si.jX.rep⟩
     dec:=h.si.dec,p8:=h.si.p8,plen:=h.si.plen,rD:=h.si.rD,wrd:=h.si.wrd
     low:=⟨kl s.value k,rfl,by omega,by omega,jO⟩}
   lv:=h.lv,model:=h.model,core:=h.core,mf:=h.mf,nd:=h.nd}
theorem SJ.VY (h:SJ n F A N0 fuel s met) (hh:s.head=((s.ll 0).length:Int)) (hA:A.length≤s.marks.length) {v:Nat} (h1:1≤v) (h2:v≤n) (h3:(v:Int)∉s.ll 0) (h4: -(v:Int)∉s.ll 0) (h5:∀u:Nat,0<u→u<v→(u:Int)∈s.ll 0∨ -(u:Int)∈s.ll 0) (hv:Value):SJ n F A N0 fuel (fF (hX s) (-(v:Int)) (-1) hv) met:=by
 have hl:Lit n (-(v:Int)):=⟨by omega,by omega,by omega⟩
 have hs:=h.si.Is hh hl h4 (by rw[dv];exact h3) hv (fun y hy=>by rw[List.getElem?_eq_none aJ] at hy;cases hy) (.inr ⟨hA,v,rfl,h5⟩)
 exact⟨hs,h.lv.Is hs.inv h.si.inv hh hl h4 (by rw[dv];exact h3),h.model,h.core,h.mf,h.nd⟩
theorem SJ.UC (h:SJ n F A N0 fuel s met) (hh:s.head=((s.ll 0).length:Int)) (hA:s.marks.length<A.length) (hl:Lit n A[s.marks.length]) (h1:A[s.marks.length]∉s.ll 0) (h2: -A[s.marks.length]∉s.ll 0) (hv:Value):SJ n F A N0 fuel (fF (hX s) A[s.marks.length] (-1) hv) met:=by
 have hs:=h.si.Is hh hl h1 h2 hv (fun y hy=>by rw[List.getElem?_eq_getElem hA] at hy;simpa using hy) (.inl (cZ _))
 exact⟨hs,h.lv.Is hs.inv h.si.inv hh hl h1 h2,h.model,h.core,h.mf,h.nd⟩
theorem SJ.JJ (h:SJ n F A N0 fuel s met) (hh:s.head=((s.ll 0).length:Int)) (hA:s.marks.length<A.length) (hx:A[s.marks.length]∈s.ll 0):SJ n F A N0 fuel (hX s) met:=
 ⟨h.si.JJ hh hA hx,LV.JJ hA,h.model,h.core,h.mf,h.nd⟩
end
end Go.Ab
