/- The solver: literals checked; a clause added, walked. -/
import Derived.Test.YtigjjjpcjnifhaaGreatAuS9
import Derived.Test.YtigjjjpcjnifhaaGreatAbZ
import Derived.Test.YtigjjjpcjnifhaaGreatAbL3
import Derived.Test.YtigjjjpcjnifhaaGreatAuC2
set_option linter.unusedSimpArgs false
set_option linter.unusedVariables false
open Nat renaming reduceBEq→df,le_refl→aP
open List renaming getElem_mem→cY,pairwise_map→dC,mem_map→bx,length_map→a6,map_append→cR,mem_append→bX,length_append→bW,length_singleton→c7,mem_singleton→cq
open Int renaming neg_neg→dt
namespace Go.Ab
open Go Go.Proofs
open Nat (reduceAdd reduceSub)
set_option maxRecDepth 20000
set_option maxHeartbeats 8000000
attribute [local irreducible] gG AW a_ gr fz AR fH fv fM gk lk me eX
theorem CM (n:Nat) (s:SR) (l:List Int) (hn:n≤20000) (hv:s.value.length=n+1) (hl:∀x∈l,Lit n x):oP Tryz.prog 52 11 (ie s) [.ptr 0 0,.pv (ke l)] (ie s) (fq true):=by
 simp only[ie,ij]
 refine oP.enter (n:=17) Tryz.func52 rfl rfl rfl rfl rfl (by decide) rfl rfl fun g fp fl=>?_;refine s9 ?_
 refine AW.jK 1 rfl fun hlen=>?_
 (refine zq ?_;refine lK ?_;refine Rj ?_;refine a_.sub rfl rfl rfl rfl rfl aJ ?_;refine a_.rO rfl rfl rfl rfl ?_;refine Q0 ?_;(with_reducible apply a_.gy);(iterate 5 exact rfl);exact ag;(iterate 3 exact rfl);(with_reducible assumption);refine Q0 ?_;refine ko ?_;refine zm ?_;refine a_.jB rfl rfl rfl ?_;(with_reducible apply a_.inline (hf:=Tryz.func39));(with_reducible assumption);(iterate 10 exact rfl);intro g_ fp fl;refine Q0 ?_;refine zq ?_;refine qJ ?_;refine IV ?_;(with_reducible apply a_.inline (hf:=Tryz.func78));(with_reducible assumption);(iterate 10 exact rfl);intro g_ fp fl;refine Q0 ?_;refine CB ?_;refine nq ?_)
 (refine Q0 ?_;apply AW.gJ [7,0,1,1006,1005,1004,1000,1001,2014,2013,2005,2004,2000,2001,3000] [11,0,1,2,3,4,5,6,7,8,9,10] (fun k:Nat=>([(8,eU k)]:List (Nat×AV))) (fun k:Nat=>([]:List (Nat×Option Ob))) (fun k:Nat=>k≤l.length) (fun k:Nat=>l.length - k) (0);(conv=>lhs;simp only[Nf.ot,Nf.all,df,reduceAdd,reduceSub]);(all_goals skip))
 ·exact Nat.zero_le _
 ·exact fe rfl (by(refine aD ?_;refine aD ?_;refine aG ?_;(iterate 2 refine aC ?_);refine aG ?_;refine aD ?_;refine aG ?_;(iterate 2 refine aC ?_);refine aG ?_;refine aC ?_;refine aD ?_;refine aC ?_;refine aG ?_;refine aC ?_;exact trivial)) (by(refine⟨.box _ rfl ?_,?_⟩;refine aD ?_;exact trivial;refine⟨.box _ rfl ?_,?_⟩;(iterate 3 refine aE ?_);refine aD ?_;refine aE ?_;refine aD ?_;(iterate 2 refine aE ?_);(iterate 3 refine aD ?_);refine aE ?_;refine aD ?_;(iterate 2 refine aG ?_);exact trivial;(iterate 3 refine aF ?_);refine aH ?_;(iterate 2 refine aF ?_);refine aH ?_;refine aF ?_;refine aH ?_;refine aF ?_;exact trivial)) rfl
 rintro k hk
 by_cases fy:k<l.length
 ·obtain⟨b1,b2,b3⟩:=hl _ (cY fy)
  have b4:¬l[k]< -((s.value.length:Int) - 1):=by omega
  have b5:¬((s.value.length:Int) - 1)<l[k]:=by omega
  (refine zq ?_;refine zs ?_;refine kW ?_;refine Q6 ?_;refine qw ?_;refine qJ ?_;refine a_.iu rfl rfl rfl ?_;(iterate 2 refine zm ?_);refine aA ?_;refine zr ?_;(with_reducible apply a_.inline (hf:=Tryz.func90));(with_reducible assumption);(iterate 10 exact rfl);intro g_ fp fl;refine Q0 ?_;refine zq ?_;refine qJ ?_;refine Rt ?_;refine oG rfl rfl ?_;refine Q0 ?_;refine EM ?_;refine tP ?_)
  exact⟨k+1,by omega,by omega,fe rfl (by(refine aD ?_;refine aD ?_;refine aG ?_;(iterate 2 refine aC ?_);refine aG ?_;refine aD ?_;refine aG ?_;(iterate 2 refine aC ?_);refine aG ?_;refine aC ?_;refine aD ?_;refine aC ?_;refine aG ?_;refine aC ?_;exact trivial)) (by(refine⟨.box _ rfl ?_,?_⟩;refine aD ?_;exact trivial;refine⟨.box _ rfl ?_,?_⟩;(iterate 3 refine aE ?_);refine aD ?_;refine aE ?_;refine aD ?_;(iterate 2 refine aE ?_);(iterate 3 refine aD ?_);refine aE ?_;refine aD ?_;(iterate 2 refine aG ?_);exact trivial;(iterate 3 refine aF ?_);refine aH ?_;(iterate 2 refine aF ?_);refine aH ?_;refine aF ?_;refine aH ?_;refine aF ?_;exact trivial)) rfl⟩
 ·(refine Cp ?_;refine kJ ?_;refine ku ?_;refine oG rfl rfl ?_;refine Q0 ?_;refine FA ?_;refine oG rfl rfl ?_;refine Q0 ?_;refine a_.Ks rfl rfl rfl ?_;refine ku ?_)
  (apply iJ;((exact gm.one (.tmp rfl rfl)));((exact qA));((exact Q2));exact rfl)
theorem M6 {n:Nat} {s:SR} (v:s.value=lX n (s.ll 0)) (ht:kd n (s.ll 0)) (hn:n≤20000) {x:Int} (hx:Lit n x) {r:Int} (hr:r=if x∈s.ll 0 then 1 else if -x∈s.ll 0 then -1 else 0):oP Tryz.prog 55 11 (ie s) [.ptr 0 0,eU x] (ie s) (eU r):=by
 have hl:s.value.length=n+1:=by rw[v,kE]
 have:=PB s x (by obtain⟨_,_,_⟩:=hx;omega) (by obtain⟨_,_,_⟩:=hx;omega) (by rw[v];exact Dm)
 rw[v,Lt hx ht,← hr] at this
 exact this
theorem Bm {n:Nat} {s:SR} (hs:fY n s) {x:Int} (hx:Lit n x) {r:Int} (hr:r=if x∈s.ll 0 then 1 else if -x∈s.ll 0 then -1 else 0) (a:Int):oP Tryz.prog 55 11 (ie {s with added:=a}) [.ptr 0 0,eU x] (ie {s with added:=a}) (eU r):=
 M6 (s:={s with added:=a}) hs.val hs.iU hs.hn hx hr
theorem BW (n:Nat) (F:List (List Int)) (k:Nat) (s:SR) (hS:mO n F k s) (hk:k<60000) (c:List Int) (hc:∀x∈c,Lit n x) (iX:c.length≤1000000):vo Tryz.prog 27 11 (ie s) [.ptr 0 0,.pv (ke c)] (fun q:SR=>mO n (F++ [c]) (k+1) q) (fun q=>ie q) (fun _=>fq true):=by
 have hs:=hS.inv
 have sA:=hs.hn
 have kY:=hs.iU.len
 have A_:=hS.tI
 have EA:s.value.length=n+1:=by rw[hs.val,kE]
 have ld:=CM n s c sA EA hc
 have MR:=xw {s with added:=s.added+1} 0 (by show(s.marks.length:Int)≤0;rw[hS.marks];simp)
 have Xm:=hS.added
 have had2:¬(60000:Int)≤s.added:=by omega
 simp only[ie,ij] at ld MR ⊢
 refine vo.enter (n:=84) Tryz.func27 rfl rfl rfl rfl rfl (by decide) rfl (fun _=>rfl) fun g fp fl=>?_;refine s9 ?_
 refine AW.jK 1 rfl fun hlen=>?_
 (refine zq ?_;refine kc ?_;refine wP ?_;refine zm ?_;refine zX (ld) ?_;refine k9 ?_;refine IJ ?_;refine SY ?_;refine a_.c_ 96 4 9 rfl rfl rfl rfl ?_;refine zl ?_;refine zb ?_;refine zl ?_;refine a_.geq rfl rfl rfl rfl rfl ?_;refine Ku ?_;refine kJ ?_;refine pJ ?_;refine a_.c_ 96 4 9 rfl rfl rfl rfl ?_;refine zb ?_;refine zj ?_;refine a_.fw rfl rfl rfl ?_;refine a_.c_ 96 4 9 rfl rfl rfl rfl ?_;(with_reducible apply a_.gy);(iterate 5 exact rfl);exact ag;(iterate 3 exact rfl);(with_reducible assumption);refine Q0 ?_;refine ko ?_;refine wx ?_;refine zX (MR) ?_;refine k9 ?_;refine ko ?_;refine vt ?_;refine zm ?_;refine nq ?_)
 (refine Q0 ?_;apply AW.gJ [31,30,0,1,1000] [0,1,2,3,4,5,6,7,8,9,10] (fun q:List Int×Nat=>([(5,.own 11 3 1 (q.1.map encI)),(32,eU q.2)]:List (Nat×AV))) (fun q:List Int×Nat=>([(11,some .row)]:List (Nat×Option Ob))) (fun q:List Int×Nat=>qi s c q.1 q.2) (fun q:List Int×Nat=>c.length - q.2) ((([]:List Int),(0:Nat)));(conv=>lhs;simp only[Nf.ot,Nf.all,df,reduceAdd,reduceSub]);(all_goals skip))
 ·exact .start
 ·exact fe rfl (by(refine⟨.jN _ _ _ rfl rfl,?_⟩;(iterate 2 refine aD ?_);refine aG ?_;refine aC ?_;refine aG ?_;refine aC ?_;exact trivial)) (by(refine⟨.iW rfl,?_⟩;refine⟨.box _ rfl ?_,?_⟩;(iterate 3 refine aE ?_);refine aD ?_;refine aE ?_;refine aD ?_;(iterate 2 refine aE ?_);(iterate 3 refine aD ?_);refine aE ?_;refine aD ?_;(iterate 2 refine aG ?_);exact trivial;(iterate 3 refine aF ?_);refine aH ?_;(iterate 2 refine aF ?_);refine aH ?_;refine aF ?_;refine aH ?_;refine aF ?_;exact trivial)) rfl
 rintro⟨l,i⟩ hA
 simp only at hA
 have hi:=hA.hi
 have xf:l.length≤1000000:=by
  have:=kO (n:=2*n+2) (l:=l.map eX) (by
   unfold List.Nodup
   rw[dC]
   exact hA.nd.imp_of_mem fun {a b} ha hb sS e=>sS (iw (hc a (hA.sub a ha).1) (hc b (hA.sub b hb).1) (by rw[e]))) fun v hv=>by
   obtain⟨a,ha,rfl⟩:=bx.1 hv
   have:=gT (hc a (hA.sub a ha).1)
   omega
  simp only[a6] at this
  omega
 by_cases fy:i<c.length
 ·have vT:(i:Int).toNat<c.length:=by omega
  obtain⟨x,hx⟩:∃x,x=c[i]:=⟨_,rfl⟩
  have wk:=hc _ (cY fy)
  have xg:c[i]∈c:=cY fy
  rw[← hx] at wk xg
  have Ph: -1000000≤x∧x≤1000000:=by obtain⟨_,_,_⟩:=wk;omega
  have Qe:=oK c (-x)
  have Mk:=oK l x
  by_cases BH: -x∈c
  ·have hT:=hS.WB hc (.inl ⟨x,xg,BH⟩)
   rw[decide_eq_true BH] at Qe
   (refine ru ?_;refine aA ?_;refine zr ?_;refine kc ?_;(with_reducible apply AW.xe 9);(rw[← hx]);refine kJ ?_;(iterate 2 refine zm ?_);refine a_.neg rfl rfl rfl aJ ?_;refine zA (Qe) ?_;refine zm ?_;(iterate 6 refine a_.gE rfl rfl rfl rfl rfl rfl rfl ?_);refine A9 ?_;refine kJ ?_;refine qP ?_;refine PX ?_)
   (apply hX (({s with added:=s.added+1}:SR)) (hT);((exact gm.one (.tmp rfl rfl)));((exact qA));((exact Q2));exact rfl)
  ·rw[decide_eq_false BH] at Qe
   by_cases Uj:x∈s.ll 0
   ·have hT:=hS.WB hc (.inr ⟨x,xg,Uj⟩)
    have w6:=Bm hs wk (r:=1) (if_pos Uj).symm (s.added+1)
    simp only[ie,ij] at w6
    (refine ru ?_;refine aA ?_;refine zr ?_;refine kc ?_;(with_reducible apply AW.xe 9);(rw[← hx]);refine S9 ?_;refine xj ?_;refine kJ ?_;refine qP ?_;refine PX ?_)
    (apply hX (({s with added:=s.added+1}:SR)) (hT);((exact gm.one (.tmp rfl rfl)));((exact qA));((exact Q2));exact rfl)
   ·by_cases Tz: -x∈s.ll 0
    ·have w6:=Bm hs wk (r:= -1) (by rw[if_neg Uj,if_pos Tz]) (s.added+1)
     have sO:=hA.skip fy (.inr (by rw[← hx];exact Tz))
     simp only[ie,ij] at w6
     (refine ru ?_;refine aA ?_;refine zr ?_;refine kc ?_;(with_reducible apply AW.xe 9);(rw[← hx]);refine S9 ?_;refine nY ?_;refine vh ?_;refine zm ?_;refine Fj ?_;refine a_.eql rfl rfl rfl rfl rfl ?_;refine Na ?_;refine a_.kr rfl rfl rfl rfl rfl rfl ?_;refine Ci ?_;refine uH ?_;refine td ?_)
     exact Q55
    ·have w6:=Bm hs wk (r:=0) (by rw[if_neg Uj,if_neg Tz]) (s.added+1)
     simp only[ie,ij] at w6
     by_cases iT:x∈l
     ·rw[decide_eq_true iT] at Mk
      have sO:=hA.skip fy (.inl (by rw[← hx];exact iT))
      (refine ru ?_;refine aA ?_;refine zr ?_;refine kc ?_;(with_reducible apply AW.xe 9);(rw[← hx]);refine TM ?_;refine a_.jL rfl rfl rfl rfl rfl rfl ?_;refine Ci ?_;refine uH ?_;refine td ?_)
      exact Q55
     ·rw[decide_eq_false iT] at Mk
      have sO:=hA.add fy (by rw[← hx];exact iT) (by rw[← hx];exact Uj) (by rw[← hx];exact Tz)
      rw[← hx] at sO
      (refine ru ?_;refine aA ?_;refine zr ?_;refine kc ?_;(with_reducible apply AW.xe 9);(rw[← hx]);refine TM ?_;refine A9 ?_;refine tu ?_;refine se ?_;(with_reducible apply a_.oE);(iterate 5 exact rfl);exact ag;exact rfl;exact rfl;refine Q0 ?_;(with_reducible apply a_.fD);exact rfl;exact ah;(iterate 9 exact rfl);exact aa;refine Q0 ?_;refine vG ?_;refine td ?_)
      exact⟨((l++ [x],i+1):List Int×Nat),sO,by show c.length - (i+1)<c.length - i;omega,fe rfl (by(refine⟨.ff (by first|rfl|(rw[cR];rfl)) rfl,?_⟩;refine⟨.fm (by first|rfl|(rw[cR];rfl)),?_⟩;refine⟨.fm (by first|rfl|(rw[cR];rfl)),?_⟩;refine⟨.iz (by first|rfl|(rw[cR];rfl)),?_⟩;refine aC ?_;refine⟨.iz (by first|rfl|(rw[cR];rfl)),?_⟩;refine aC ?_;exact trivial)) (by(refine aF ?_;refine⟨.box _ rfl ?_,?_⟩;refine⟨.ff (by first|rfl|(rw[cR];rfl)) rfl,?_⟩;refine⟨.ff (by first|rfl|(rw[cR];rfl)) rfl,?_⟩;refine⟨.ff (by first|rfl|(rw[cR];rfl)) rfl,?_⟩;refine⟨.fm (by first|rfl|(rw[cR];rfl)),?_⟩;refine⟨.ff (by first|rfl|(rw[cR];rfl)) rfl,?_⟩;refine⟨.fm (by first|rfl|(rw[cR];rfl)),?_⟩;refine⟨.ff (by first|rfl|(rw[cR];rfl)) rfl,?_⟩;refine⟨.ff (by first|rfl|(rw[cR];rfl)) rfl,?_⟩;refine⟨.fm (by first|rfl|(rw[cR];rfl)),?_⟩;refine⟨.fm (by first|rfl|(rw[cR];rfl)),?_⟩;refine⟨.fm (by first|rfl|(rw[cR];rfl)),?_⟩;refine⟨.ff (by first|rfl|(rw[cR];rfl)) rfl,?_⟩;refine⟨.fm (by first|rfl|(rw[cR];rfl)),?_⟩;refine⟨.iz (by first|rfl|(rw[cR];rfl)),?_⟩;refine⟨.iz (by first|rfl|(rw[cR];rfl)),?_⟩;exact trivial;(iterate 3 refine aF ?_);refine⟨.fb rfl (by first|rfl|(rw[cR];rfl)),?_⟩;(iterate 2 refine aF ?_);refine⟨.fb rfl (by first|rfl|(rw[cR];rfl)),?_⟩;refine aF ?_;refine⟨.fb rfl (by first|rfl|(rw[cR];rfl)),?_⟩;refine aF ?_;exact trivial)) rfl⟩
 ·obtain rfl:i=c.length:=by omega
  by_cases h0:l=[]
  ·subst h0
   have hT:=hS.empty hc hA
   (refine RQ ?_;refine AW.oQ rfl rfl ?_;refine tu ?_;refine pJ ?_;refine a_.c_ 96 5 10 rfl rfl rfl rfl ?_;(with_reducible apply a_.gy);(iterate 5 exact rfl);exact ag;(iterate 3 exact rfl);(with_reducible assumption);refine Q0 ?_;refine a_.nil ?_;refine yM ?_;refine zq ?_;refine ku ?_)
   (apply hX (({s with added:=s.added+1,broken:=true}:SR)) (hT);((exact gm.one (.tmp rfl rfl)));((exact qA));((exact Q2));exact rfl)
  ·have TQ:0<l.length:=List.length_pos_iff.2 h0
   have oH:(0:Int).toNat<l.length:=show 0<_ by omega
   by_cases h1:l.length=1
   ·have e1:=Lk h1 oH
    have He:=hc _ (hA.sub _ (cY oH)).1
    have hT:=fun h:Value=>hS.unit hc (by rw[← e1];exact hA) h
    have MQ:=rQ {s with added:=s.added+1} l[(0:Int).toNat] (-1) (by obtain⟨_,_,_⟩:=He;omega) (by obtain⟨_,_,_⟩:=He;show _<(s.value.length:Int)∧_<(s.value.length:Int);omega) (by show s.level.length=s.value.length;rw[hs.lvl,EA]) (by show s.reason.length=s.value.length;rw[hs.pH,EA]) (by show(s.ll 0).length≤_;omega) (by show s.marks.length≤_;rw[hS.marks];simp)
    simp only[ie,ij] at MQ
    (refine RQ ?_;refine zk ?_;refine kJ ?_;refine wY ?_;refine zc ?_;refine EL ?_;show a_ .held _ _ _ [_,_,_,_,_] _ _;refine wx ?_;refine a_.fX rfl rfl rfl ?_;refine Dl ?_;refine Q3 ?_;intro k_ iE;refine s8 ?_;intro g_ b_ fU;refine au ?_;refine xr ?_;intro g_ b_ eT;(with_reducible apply a_.kI (hf:=MQ));(with_reducible assumption);(iterate 3 exact rfl);exact aq;exact ak;(intro x_;exact rfl);exact rfl;exact al;(intro x_;exact al);(intro x_;exact rfl);exact rfl;(intro x_ rL);refine Q1 ?_;refine ya ?_;refine yM ?_;refine zq ?_;refine ku ?_)
    (apply hX ((fO {s with added:=s.added+1} l[(0:Int).toNat] (-1) x_:SR)) (hT x_);((exact gm.one (.tmp rfl rfl)));((exact qA));((exact Q2));exact rfl)
   ·have h2:2≤l.length:=by omega
    (refine RQ ?_;refine zk ?_;refine kJ ?_;refine wY ?_;refine zk ?_;refine AW.PO 15 ?_)
    refine Stop.go ?_
    refine AW.Ai 7 11 s.nc 5 (us:=l) rfl rfl rfl rfl (hs.fresh s.nc (aP _)).2 fun v_ Kk=>?_
    refine aB ?_
    have hT:=fun h1 h3:Value=>hS.WW hc hk hA h2 v_ h1 h3
    have lY:∀x∈l,Lit n x:=fun x hx=>hc x (hA.sub x hx).1
    have m0:=lY _ (km h2).1
    have m1:=lY _ (km h2).2
    have gn:c0 l≠c1 l:=fun e=>by
     rw[show c0 l=l[0] from fJ aJ,show c1 l=l[1] from fJ aJ] at e
     have:=(List.getElem_inj hA.nd (h₀:=by omega) (h₁:=by omega)).1 e
     omega
    have i0:=gT m0
    have i1:=gT m1
    have C9:(l.drop 2).length≤1000000:=by rw[List.length_drop];omega
    have BP:=hs.nw
    have XJ:=hs.IF m0
    have Y6:=hs.IF m1
    have hid:eX (c0 l)≠eX (c1 l):=fun e=>gn (iw m0 m1 (by rw[e]))
    obtain⟨_,_,_⟩:=m0
    obtain⟨_,_,_⟩:=m1
    have r8:=y5 {s with added:=s.added+1,hc:=e_ s.hc s.nc v_,cl:=e_ s.cl s.nc l} (c0 l) (c1 l) (l.drop 2) (by show e_ s.cl s.nc l s.nc=_;rw[e7];exact K1 h2) hid (by show 0≤eX (c0 l)∧_<s.nw;omega) (by show 0≤eX (c1 l)∧_<s.nw;omega) aJ aJ (by show s.nc≤_;omega) (by show(s.wl _).length≤_;omega) (by show(s.wl _).length≤_;omega) (by show s.nw≤_;omega) C9
    simp only[ie,ij,e7,kn] at r8
    rw[iZ s.nc s.hc v_]
    (refine AW.region ?_;refine Fo ?_;(with_reducible apply a_.kI (hf:=r8));(with_reducible assumption);(iterate 3 exact rfl);exact aq;exact ak;(intro x_;exact rfl);exact rfl;exact al;(intro x_;exact al);(intro x_;exact rfl);exact rfl;(intro x_ rL);refine Q1 ?_;refine a_.nil ?_;refine yM ?_;refine zq ?_;refine ku ?_)
    (apply hX ((l7 {s with added:=s.added+1} l v_ x_.1 x_.2:SR)) (hT x_.1 x_.2);((exact gm.one (.tmp rfl rfl)));((exact qA));((exact Q2));exact rfl)
end Go.Ab
/- What a search leaves;the invariant of its loop. -/
namespace Go.Ab
open Go Go.Proofs
structure lC (n:Nat) (F:List (List Int)) (A:List Int) (fuel:Nat) (t:SR) (k:Int):Prop where
 hn:n≤20000
 vQ:wb F t.proof
 lits:∀c∈F++t.proof,∀x∈c,Lit n x
 plen:t.proof.length≤3 ^ n
 plen2:t.proof.length≤20000
 nd:∀c∈t.proof,c.Nodup
 res:(k=1∧∃L,t.model=lX n L∧t.core=[]∧A0 n F A L)∨(k=2∧t.model=[]∧∃P,t.proof=P++ [t.core.map fun y=> -y]∧(∀y∈t.core,y∈A)∧t.core.Nodup∧∀y∈t.core,Lit n y)∨(k=0∧t.model=[]∧t.core=[]∧(fuel<3 ^ n∨20000<3 ^ n))
def LV (A:List Int) (s:SR):Prop:=∀l:Nat,A.length<l→l≤s.marks.length→∃x∈s.ll 0,fh s x=(l:Int)
theorem Ky {a:Nat}:∀{b:Nat} {S:List Int},(∀l:Nat,a<l→l≤b→(l:Int)∈S)→b≤a+S.length
 |0,_,_=>by omega
 |b+1,S,h=>by
  by_cases e:b+1≤a
  ·omega
  ·have hm:=h (b+1) aJ (aP _)
   have:=Ky (b:=b) (S:=S.erase ((b+1:Nat):Int)) fun l h1 h2=>(List.mem_erase_of_ne aJ).2 (h l h1 aJ)
   rw[List.length_erase_of_mem hm] at this
   have:0<S.length:=List.length_pos_of_mem hm
   omega
section
variable {n:Nat} {F:List (List Int)} {A:List Int} {P0 N0:Nat} {s:SR} {met:Nat}
theorem LV.len (h:LV A s) (hs:fY n s):s.marks.length≤A.length+n:=by
 have:=Ky (a:=A.length) (b:=s.marks.length) (S:=(s.ll 0).map (fh s)) fun l h1 h2=>by
  obtain⟨x,hx,e⟩:=h l h1 h2
  exact bx.2 ⟨x,hx,e⟩
 rw[a6] at this
 have:=hs.iU.len
 omega
theorem LV.prop {t:SR} {r:Int} (h:LV A s) (hs:fY n s) (hp:Ls n s t r):LV A t:=fun l h1 h2=>by
 rw[hp.ext.marks] at h2
 obtain⟨x,hx,e⟩:=h l h1 h2
 obtain⟨ys,ell⟩:=hp.ext.ll
 exact⟨x,by rw[ell];exact bX.2 (.inl hx),by rw[ur hs hp.inv hp.ext hx];exact e⟩
theorem LV.Ka (hA:s.marks.length<A.length):LV A (iA s):=fun l h1 h2=>by
 have h2:l≤(s.marks++ [((s.ll 0).length:Int)]).length:=h2
 simp only[bW,c7] at h2
 omega
theorem LV.L1 {x:Int} {hv:Value} (h:LV A s) (hi:fY n (fO (iA s) x (-1) hv)) (hs:fY n s) (hh:s.head=((s.ll 0).length:Int)) (hx:Lit n x) (h1:x∉s.ll 0) (h2: -x∉s.ll 0):LV A (fO (iA s) x (-1) hv):=fun l q1 q2=>by
 have kY:(fO (iA s) x (-1) hv).ll 0=s.ll 0++ [x]:=j5 _ _ _ _
 have q2:l≤(s.marks++ [((s.ll 0).length:Int)]).length:=q2
 simp only[bW,c7] at q2
 by_cases e:l≤s.marks.length
 ·obtain⟨y,hy,ey⟩:=h l q1 e
  exact⟨y,by rw[kY];exact bX.2 (.inl hy),(ja (s:=iA s) (pN (n:=n) h1 h2 (.inl hy))).trans ey⟩
 ·obtain rfl:l=s.marks.length+1:=by omega
  refine⟨x,by rw[kY];simp,?_⟩
  rw[nC (hs.mark hh) hx]
  show(((s.marks++ [_]).length:Nat):Int)=_
  simp
theorem LV.cut (h:LV A s) (hs:fY n s) {t:Nat} (ht:t<s.marks.length):∀l:Nat,A.length<l→l≤t→∃x∈(gw s t).ll 0,fh s x=(l:Int):=fun l q1 q2=>by
 obtain⟨x,hx,e⟩:=h l q1 (by omega)
 obtain⟨i,hi,rfl⟩:=List.getElem_of_mem hx
 have:=(hs.mQ ht hi).1 (by omega)
 rw[(nB hs ht).1]
 exact⟨_,List.mem_take_iff_getElem.2 ⟨i,by omega,rfl⟩,e⟩
structure SJ (n:Nat) (F:List (List Int)) (A:List Int) (N0 fuel:Nat) (s:SR) (met:Nat):Prop where
 si:SI n F A 0 N0 s met
 lv:LV A s
 model:s.model=[]
 core:s.core=[]
 mf:met<fuel
 nd:∀c∈s.proof,c.Nodup
theorem Lq (hs:fY n s):Gx s=s:=by
 have:=hs.hd
 show({s with head:=min s.head ((s.ll 0).length:Int)}:SR)=s
 rw[Int.min_eq_left aJ]
theorem mO.sj {k fuel:Nat} (h:mO n F k s) (hf:0<fuel):SJ n F A k fuel {s with core:=[],model:=[]} 0:=by
 have h2:mO n F k {s with core:=[],model:=[]}:=
  {inv:={hn:=h.inv.hn,iU:=h.inv.iU,val:=h.inv.val,lvl:=h.inv.lvl,pH:=h.inv.pH,hd:=h.inv.hd,oW:=h.inv.oW,nM:=h.inv.nM,cls:=h.inv.cls,fresh:=h.inv.fresh,nc:=h.inv.nc,nw:=h.inv.nw,wt:=h.inv.wt,sJ:=h.inv.sJ,sH:=h.inv.sH,two:=h.inv.two,qK:=h.inv.qK,q7:=h.inv.q7}
   kq:=⟨h.kq.lits,h.kq.cls,h.kq.qo,h.kq.bad,h.kq.vQ,h.kq.rep⟩
   low:=h.low,marks:=h.marks,proof:=h.proof,added:=h.added,tI:=h.tI}
 exact⟨h2.si A,fun l _ h1=>by have h1:l≤s.marks.length:=h1;rw[h.marks] at h1;simp at h1;omega,rfl,rfl,hf,fun c hc=>by have hc:c∈s.proof:=hc;rw[h.proof] at hc;simp at hc⟩
theorem SJ.prop {N0 fuel:Nat} {t:SR} {r:Int} (h:SJ n F A N0 fuel s met) (hp:Ls n s t r):SJ n F A N0 fuel t met:=
 ⟨h.si.prop hp,h.lv.prop h.si.inv hp,by rw[hp.ext.model];exact h.model,by rw[hp.ext.core];exact h.core,h.mf,by rw[hp.ext.proof];exact h.nd⟩
theorem SJ.sB {N0 fuel:Nat} {j:Nat} {v:Value} {l:List Int} {to:Int} {q:SR} (h:SJ n F A N0 fuel s met) (ha:uz n s j l to) (hm:0<s.marks.length) (hj:j<s.nc) (hf:∀x∈s.cl j,-x∈s.ll 0) (hN:N0≤60000) (hfl:fuel≤30000) (hq:Kb (gw {s with hc:=e_ s.hc s.nc v,cl:=e_ s.cl s.nc l} to.toNat) q):
  SI n F A 0 N0 q (met+1)∧LV A q∧q.model=[]∧q.core=[]∧∀c∈q.proof,c.Nodup:=by
 have hs:=h.si.inv
 obtain⟨RO,ht,fy⟩:=ha.lvl hs hm
 have X3:=h.lv.cut hs ht
 have iX:(gw {s with hc:=e_ s.hc s.nc v,cl:=e_ s.cl s.nc l} to.toNat).cl (gw {s with hc:=e_ s.hc s.nc v,cl:=e_ s.cl s.nc l} to.toNat).nc=l:=by
  show e_ s.cl s.nc l s.nc=l
  exact e7 _ _ _
 have Qu:=ha.back hs ⟨ht,fy⟩
 have jg:∀c∈s.proof++ [l],c.Nodup:=fun c hc=>by
  obtain⟨_,_,_,_,_,_,r5,_⟩:=Qu
  rcases bX.1 hc with hc|hc
  ·exact h.nd c hc
  ·rw[cq.1 hc];exact r5
 rcases hq with ⟨p,hv,e1,e2⟩|⟨l',h1,h2,hv,e0,e1,e2,e3,e4,e5⟩
 ·rw[iX] at e1
  subst e1
  obtain⟨IU,PZ⟩:=h.si.SO ha hm hj hf hv
  have eq:q=fO (p_ (gw s to.toNat) [p]) p (-1) hv:=by
   rw[e2,iX]
   have e3:({gw {s with hc:=e_ s.hc s.nc v,cl:=e_ s.cl s.nc [p]} to.toNat with hc:=e_ (e_ s.hc s.nc v) s.nc (.slice none 0 0),cl:=e_ (e_ s.cl s.nc [p]) s.nc [],proof:=s.proof++ [[p]]}:SR)=p_ (gw s to.toNat) [p]:=by
    obtain⟨f1,f2⟩:=hs.fresh s.nc (aP _)
    rw[jQ,jQ]
    have g1:e_ s.hc s.nc (.slice none 0 0)=s.hc:=by rw[← f2];exact xk _ _
    have g2:e_ s.cl s.nc []=s.cl:=by rw[← f1];exact xk _ _
    rw[g1,g2];rfl
   exact congrArg (fun z=>fO z p (-1) hv) e3
  rw[eq]
  refine⟨PZ,fun l h1 h2=>?_,h.model,h.core,jg⟩
  have h2:l≤(s.marks.take to.toNat).length:=h2
  rw[IU] at h2
  simp at h2;omega
 ·rw[iX] at e0 e1 e2 e3 e4 e5
  have A_:s.nc+1≤100000:=by have:=h.si.tI;have:=h.mf;omega
  have PZ:=h.si.SP ha hm hj hf e0 e1 e2 e3 e4 A_ v h1 h2 hv
  have eq:q=fO (l7 (p_ (gw s to.toNat) l) l' v h1 h2) (c0 l') s.nc hv:=by
   rw[e5]
   have e3:({gw {s with hc:=e_ s.hc s.nc v,cl:=e_ s.cl s.nc l} to.toNat with nc:=s.nc+1,cl:=e_ (e_ s.cl s.nc l) s.nc l',proof:=s.proof++ [l]}:SR)={p_ (gw s to.toNat) l with nc:=s.nc+1,hc:=e_ s.hc s.nc v,cl:=e_ s.cl s.nc l'}:=by
    rw[jQ];rfl
   exact congrArg (fun z=>fO (kn (kn z (c0 l') s.nc h1) (c1 l') s.nc h2) (c0 l') (s.nc:Nat) hv) e3
  rw[eq]
  refine⟨PZ,fun l2 q1 q2=>?_,h.model,h.core,jg⟩
  have q2:l2≤(s.marks.take to.toNat).length:=q2
  rw[List.length_take] at q2
  obtain⟨x,hx,ex⟩:=X3 l2 q1 (by omega)
  obtain⟨p,rest,r1,r2,r3,r4,_⟩:=Qu
  have ec0:c0 l'=p:=by rw[e2,r1];rfl
  refine⟨x,by rw[j5];exact bX.2 (.inl hx),?_⟩
  rw[ec0]
  exact(ja (s:=l7 (p_ (gw s to.toNat) l) l' v h1 h2) (pN (n:=n) r3 r4 (.inl hx))).trans ex
end
end Go.Ab
/- What the search's endings leave;the least free variable. -/
namespace Go.Ab
open Go Go.Proofs
theorem vl {v:List Int}:∀{m low:Nat},v.length - low=m→(∀i,low≤i→i<lq v low→v.getD i 0≠0)∧(lq v low<v.length→v.getD (lq v low) 0=0)
 |0,low,h=>by
  rw[ym aJ]
  exact⟨fun i h1 h2=>by omega,fun h1=>by omega⟩
 |m+1,low,h=>by
  have fy:low<v.length:=by omega
  by_cases h0:v[low]=0
  ·rw[uT fy h0]
   exact⟨fun i h1 h2=>by omega,fun _=>by rw[fJ fy];exact h0⟩
  ·rw[vf fy h0]
   obtain⟨q1,q2⟩:=vl (v:=v) (m:=m) (low:=low+1) (by omega)
   refine⟨fun i h1 h2=>?_,q2⟩
   by_cases e:i=low
   ·subst e;rw[fJ fy];exact h0
   ·exact q1 i aJ h2
theorem FM {n:Nat} {L:List Int} {u:Nat} (hu:u≤n):(lX n L).getD u 0≠0↔(u:Int)∈L∨ -(u:Int)∈L:=by
 rw[uw L hu]
 by_cases h1:(u:Int)∈L
 ·simp [h1]
 ·by_cases h2: -(u:Int)∈L
  ·simp [h1,h2]
  ·simp [h1,h2]
section
variable {n:Nat} {F:List (List Int)} {A:List Int} {N0 fuel:Nat} {s t:SR} {met:Nat}
theorem SJ.plen (h:SJ n F A N0 fuel s met):s.proof.length=met∧met<3 ^ n:=⟨by have:=h.si.plen;omega,h.si.JM⟩
theorem yu {P:List (List Int)} {c:List Int} (h:∀d∈F++P,∀x∈d,Lit n x) (hc:∀x∈c,Lit n x):∀d∈F++(P++ [c]),∀x∈d,Lit n x:=fun d hd=>by
 rw[← List.append_assoc] at hd
 rcases bX.1 hd with hd|hd
 ·exact h d hd
 ·rw[cq.1 hd];exact hc
theorem G0 {P:List (List Int)} {c:List Int} (h:∀d∈P,d.Nodup) (hc:c.Nodup):∀d∈P++ [c],d.Nodup:=fun d hd=>by
 rcases bX.1 hd with hd|hd
 ·exact h d hd
 ·rw[cq.1 hd];exact hc
theorem SJ.Ya (h:SJ n F A N0 fuel s met) (hf:fuel≤20000) (hc:um (F++s.proof) Lm) (e1:t.proof=s.proof++ [([]:List Int).map fun y=> -y]) (e2:t.core=[]) (e3:t.model=[]):lC n F A fuel t 2:=by
 obtain⟨p1,p2⟩:=h.plen
 have:=h.mf
 exact
  {hn:=h.si.inv.hn
   vQ:=by rw[e1];exact h.si.kq.vQ.snoc (.inl (hc.cut (fun _ h=>h) fun _ h=>h.elim))
   lits:=by rw[e1];exact yu h.si.kq.lits fun x hx=>by simp at hx
   plen:=by rw[e1,bW,c7];omega
   plen2:=by rw[e1,bW,c7];omega
   nd:=by rw[e1];exact G0 h.nd (by simp)
   res:=.inr (.inl ⟨rfl,e3,s.proof,by rw[e2];exact e1,by rw[e2];simp,by rw[e2];simp,by rw[e2];simp⟩)}
theorem SJ.Z1 (h:SJ n F A N0 fuel s met) (hf:fuel≤20000) {x:Int} {core:List Int} (hb:E0 n s x core) (hm:s.marks.length<A.length) (Om:x∈A) (hx: -x∈s.ll 0) (e1:t.proof=s.proof++ [core.map fun y=> -y]) (e2:t.core=core) (e3:t.model=[]):lC n F A fuel t 2:=by
 obtain⟨p1,p2⟩:=h.plen
 have:=h.mf
 obtain⟨b1,b2,b3⟩:=hb.core h.si hm Om hx
 exact
  {hn:=h.si.inv.hn
   vQ:=by rw[e1];exact h.si.kq.vQ.snoc (hb.YL h.si.kq hx)
   lits:=by
    rw[e1]
    refine yu h.si.kq.lits fun y hy=>?_
    obtain⟨z,hz,rfl⟩:=bx.1 hy
    obtain⟨_,_,_⟩:=b3 z hz
    exact⟨by omega,by omega,by omega⟩
   plen:=by rw[e1,bW,c7];omega
   plen2:=by rw[e1,bW,c7];omega
   nd:=by rw[e1];exact G0 h.nd (by unfold List.Nodup;rw[dC];exact b2.imp fun sS e=>sS aJ)
   res:=.inr (.inl ⟨rfl,e3,s.proof,by rw[e2];exact e1,by rw[e2];exact b1,by rw[e2];exact b2,by rw[e2];exact b3⟩)}
theorem SI.YJ (h:SI n F A 0 N0 s met) (jg:∀c∈s.proof,c.Nodup) (hf:fuel≤20000) (hm:met=fuel) (e1:t.proof=s.proof) (e2:t.core=[]) (e3:t.model=[]):lC n F A fuel t 0:=by
 have p1:=h.plen
 have p2:=h.JM
 exact
  {hn:=h.inv.hn
   vQ:=by rw[e1];exact h.kq.vQ
   lits:=by rw[e1];exact h.kq.lits
   plen:=by rw[e1];omega
   plen2:=by rw[e1];omega
   nd:=by rw[e1];exact jg
   res:=.inr (.inr ⟨rfl,e3,e2,.inl aJ⟩)}
theorem SJ.full (h:SJ n F A N0 fuel s met) {low:Nat} (hl:s.low=(low:Int)) (he:lq s.value low=s.value.length):∀v:Nat,1≤v→v≤n→(v:Int)∈s.ll 0∨ -(v:Int)∈s.ll 0:=fun v h1 h2=>by
 obtain⟨k,q1,q2,q3,q4⟩:=h.si.low
 have MX:k=low:=by omega
 subst MX
 by_cases e:v<k
 ·exact q4 v h1 e
 ·have:=(vl (v:=s.value) (low:=k) rfl).1 v aJ (by rw[he,h.si.inv.val,kE];omega)
  rw[h.si.inv.val] at this
  exact(FM h2).1 this
theorem SJ.Yy (h:SJ n F A N0 fuel s met) (hf:fuel≤20000) (hb:s.broken=false) (hh:s.head=((s.ll 0).length:Int)) (hA:A.length≤s.marks.length) (GY:∀v:Nat,1≤v→v≤n→(v:Int)∈s.ll 0∨ -(v:Int)∈s.ll 0) (e1:t.proof=s.proof) (e2:t.core=[]) (e3:t.model=s.value):lC n F A fuel t 1:=by
 obtain⟨p1,p2⟩:=h.plen
 have:=h.mf
 exact
  {hn:=h.si.inv.hn
   vQ:=by rw[e1];exact h.si.kq.vQ
   lits:=by rw[e1];exact h.si.kq.lits
   plen:=by rw[e1];omega
   plen2:=by rw[e1];omega
   nd:=by rw[e1];exact h.nd
   res:=.inl ⟨rfl,s.ll 0,by rw[e3];exact h.si.inv.val,e2,h.si.sat hb hh hA GY⟩}
theorem fY.S8 (h:fY n s) (k:Int):fY n {s with low:=k}:=
 {hn:=h.hn,iU:=h.iU,val:=h.val,lvl:=h.lvl,pH:=h.pH,hd:=h.hd,oW:=h.oW,nM:=h.nM,cls:=h.cls,fresh:=h.fresh,nc:=h.nc,nw:=h.nw,wt:=h.wt,sJ:=h.sJ,sH:=h.sH,two:=h.two,qK:=h.qK,q7:=h.q7}
theorem SJ.free (h:SJ n F A N0 fuel s met) {low:Nat} (hl:s.low=(low:Int)) (he:lq s.value low≠s.value.length):∃v:Nat,lq s.value low=v∧1≤v∧v≤n∧(v:Int)∉s.ll 0∧ -(v:Int)∉s.ll 0∧(∀u:Nat,0<u→u<v→(u:Int)∈s.ll 0∨ -(u:Int)∈s.ll 0)∧SJ n F A N0 fuel {s with low:=(v:Int)} met:=by
 obtain⟨k,q1,q2,q3,q4⟩:=h.si.low
 have MX:k=low:=by omega
 subst MX
 have Rg:s.value.length=n+1:=by rw[h.si.inv.val,kE]
 obtain⟨b1,b2⟩:=Br (v:=s.value) (low:=k) rfl (by omega)
 obtain⟨c1,c2⟩:=vl (v:=s.value) (low:=k) rfl
 have fy:lq s.value k<s.value.length:=by omega
 have hz:=c2 fy
 have jI:¬((lq s.value k:Int)∈s.ll 0∨ -(lq s.value k:Int)∈s.ll 0):=fun hh=>by
  have:=(FM (n:=n) (L:=s.ll 0) (u:=lq s.value k) aJ).2 hh
  rw[← h.si.inv.val] at this
  exact this hz
 have j4:∀u:Nat,0<u→u<lq s.value k→(u:Int)∈s.ll 0∨ -(u:Int)∈s.ll 0:=fun u h1 h2=>by
  by_cases e:u<k
  ·exact q4 u h1 e
  ·have:=c1 u aJ h2
   rw[h.si.inv.val] at this
   exact(FM aJ).1 this
 refine⟨lq s.value k,rfl,by omega,by omega,fun hh=>jI (.inl hh),fun hh=>jI (.inr hh),j4,?_⟩
 exact
  {si:=
    {inv:=h.si.inv.S8 _
     kq:=⟨h.si.kq.lits,h.si.kq.cls,h.si.kq.qo,h.si.kq.bad,h.si.kq.vQ,h.si.kq.rep⟩
     dec:=h.si.dec,sP:=h.si.sP,plen:=h.si.plen,tI:=h.si.tI,wrd:=h.si.wrd
     low:=⟨lq s.value k,rfl,by omega,by omega,j4⟩}
   lv:=h.lv,model:=h.model,core:=h.core,mf:=h.mf,nd:=h.nd}
theorem SJ.YE (h:SJ n F A N0 fuel s met) (hh:s.head=((s.ll 0).length:Int)) (hA:A.length≤s.marks.length) {v:Nat} (h1:1≤v) (h2:v≤n) (h3:(v:Int)∉s.ll 0) (h4: -(v:Int)∉s.ll 0) (h5:∀u:Nat,0<u→u<v→(u:Int)∈s.ll 0∨ -(u:Int)∈s.ll 0) (hv:Value):SJ n F A N0 fuel (fO (iA s) (-(v:Int)) (-1) hv) met:=by
 have hl:Lit n (-(v:Int)):=⟨by omega,by omega,by omega⟩
 have hs:=h.si.L1 hh hl h4 (by rw[dt];exact h3) hv (fun y hy=>by rw[List.getElem?_eq_none aJ] at hy;cases hy) (.inr ⟨hA,v,rfl,h5⟩)
 exact⟨hs,h.lv.L1 hs.inv h.si.inv hh hl h4 (by rw[dt];exact h3),h.model,h.core,h.mf,h.nd⟩
theorem SJ.Yt (h:SJ n F A N0 fuel s met) (hh:s.head=((s.ll 0).length:Int)) (hA:s.marks.length<A.length) (hl:Lit n A[s.marks.length]) (h1:A[s.marks.length]∉s.ll 0) (h2: -A[s.marks.length]∉s.ll 0) (hv:Value):SJ n F A N0 fuel (fO (iA s) A[s.marks.length] (-1) hv) met:=by
 have hs:=h.si.L1 hh hl h1 h2 hv (fun y hy=>by rw[List.getElem?_eq_getElem hA] at hy;simpa using hy) (.inl (cY _))
 exact⟨hs,h.lv.L1 hs.inv h.si.inv hh hl h1 h2,h.model,h.core,h.mf,h.nd⟩
theorem SJ.Ka (h:SJ n F A N0 fuel s met) (hh:s.head=((s.ll 0).length:Int)) (hA:s.marks.length<A.length) (hx:A[s.marks.length]∈s.ll 0):SJ n F A N0 fuel (iA s) met:=
 ⟨h.si.Ka hh hA hx,LV.Ka hA,h.model,h.core,h.mf,h.nd⟩
end
end Go.Ab
