/- Chapter 24: the induced permutation, walked. -/
import Derived.Test.YtcklfjkaadfjjaaGreatAwE2
import Derived.Test.YtcklfjkaadfjjaaGreatAbZ
import Derived.Test.YtcklfjkaadfjjaaGreatAbL3
import Derived.Test.YtcklfjkaadfjjaaGreatAbL2
import Derived.Test.YtcklfjkaadfjjaaGreatAbL4
set_option linter.unusedSimpArgs false
set_option linter.unusedVariables false
open List renaming take_length→dF,getElem_mem→cT,mem_singleton→cp,map_append→cV,getD_eq_getElem?_getD→cO,getElem?_eq_getElem→aZ,range→a7,map_congr_left→dj,mem_range→dk,map_map→ct,length_pos_iff→ef,length_map→aX,range_succ→dP,mem_cons→br,pairwise_cons→eg,mem_append→bW,foldl_append→eh,prefix_refl→ei
open Nat renaming reduceBEq→c6,zero_le→bg,zero_lt_one→db,zero_add→a6
namespace Go.Ab
open Go Go.Proofs Go.RowKit
open Nat (reduceAdd reduceSub)
set_option maxRecDepth 20000
set_option maxHeartbeats 4000000
def k9 (fs:List gx) (f:Int):Nat:=(fs.getD f.toNat ⟨ByteArray.empty,[],false⟩).sorts.length
def pE (fs:List gx) (f:Int):Bool:=(fs.getD f.toNat ⟨ByteArray.empty,[],false⟩).var
attribute [local irreducible] AW a_ fT ff AR fh e6 fp fA fV jC jX iy fJ mI mV m_ lP
structure zR (s:gu) (st:Nat) (bs:List gv) (p:List Int):Prop where
 stb:1≤st∧st≤4
 nb:bs.length=s.fields.length∧bs.length≤10
 sm:∀x∈bs,x.1.2.length≤2000∧x.2.2.length≤2000∧nY x.1.2
 hi:∀x∈bs,nY x.2.2
 rk:∀t∈fJ 0 bs,0≤t.2∧t.2≤1000000
 ar:∀f∈s.fields,1≤f.sorts.length∧f.sorts.length≤3
 pl:0<p.length∧p.length≤12
 pa:∃iF,iH p.length iF p
 mem:∀v∈iy 0 st (fJ 0 bs) (pE s.fields),lP p.length (k9 s.fields) p v∈iy 0 st (fJ 0 bs) (pE s.fields)
theorem HX (x:Int):j5 [x]=[x]:=by simp [j5]
theorem GV {s:gu} {st:Nat} {bs:List gv} {p:List Int} (h:zR s st bs p):(fJ 0 bs).length≤1000000:=by
 have h1:=oS bs 0 bs.length fun x hx=>Nat.le_trans (h.sm x hx).2.1 (by omega)
 rw[dF] at h1
 have:=h.nb.2
 omega
attribute [local irreducible] j5
theorem qt (s:gu) (at':List Int) (st:Nat) (bs:List gv) (p:List Int) (h:zR s st bs p):
  Fn Tryz.prog 18 [De s,pI at' (st:Int),.pv (oW bs),.pv (ints p)] (.pv (ints (nT 0 p.length (k9 s.fields) st (pE s.fields) bs p))):=by
 obtain⟨so,fs,pr,fa⟩:=s
 simp only at*
 have I_:=h.stb.1
 have Ns:=h.stb.2
 have oT:=GU bs (by have:=h.nb.2;omega) (fun x hx=>by have:=h.sm x hx;exact⟨by omega,by omega,this.2.2⟩)
 refine Fn.enter (n:=61) Tryz.func18 rfl rfl rfl rfl rfl (by decide) fun g fu fw=>?_;(try refine nz ?_)
 (refine wh ?_;refine Kw ?_;refine nv ?_;refine a_.Gu (t:=99) rfl ?_;refine nz ?_;(iterate 2 refine pZ ?_);(iterate 2 refine qn ?_);refine zd ?_;refine sU ?_;refine j4 ?_;refine nG ?_;(with_reducible apply a_.inline (hf:=Tryz.func48));(with_reducible assumption);(iterate 10 exact rfl);intro g_ fu fw;refine xD ?_;refine rW ?_)
 refine AW.hZ (ps:=[20]) (by assumption) (by assumption) rfl rfl Tryz.func91 rfl rfl rfl rfl rfl rfl (by decide) ?_
 intro gB tm0 l0 ps0 asg0 body0 jW Hs sR jY IX uA
 have lT:tm0.size=61:=uA
 refine AW.cut (δc:={n:=61,env:=[(0,.kS 9),(1,.ptr 7 0),(2,.ptr 8 0),(3,.ptr 6 0),(1010,.ptr 5 0),(1009,.ptr 4 0),(1007,.ptr 2 0),(1005,.ptr 1 0),(1004,.ptr 0 0),(1002,.pv (oW bs))],fY:=[(3,some (.mp (tf (mI 0 (jC 0 (jO st)))))),(5,some (.box [eU (jO st:Nat)])),(9,some (.loop l0 tm0 ps0 asg0 body0 .ready)),(8,some (.box [.pv (oW bs)])),(7,some (.box [.pv (ints at'),eU st])),(6,some (.box [.pv (.slice 2 (so.map mT)),.pv (.slice 3 (fs.map qj)),vO pr,vO fa])),(4,some (.box [.gH 3])),(2,some (.box [.pv (ints p)])),(1,some (.box [.pv (ints at'),eU st])),(0,some (.box [.pv (.slice 2 (so.map mT)),.pv (.slice 3 (fs.map qj)),vO pr,vO fa]))],nx:=10}) ?_ ?_
 ·by_cases h1:1<st
  ·have gZ:jO st=st:=if_pos h1
   rw[gZ]
   (refine Q5 ?_;refine yR ?_;refine nD ?_;refine y1 ?_;refine zm ?_;refine rW ?_)
   (refine nz ?_;apply AW.fO [14,0,1,2,3,1010,1009,1007,1005,1004,1002,1003] [9,8,7,6,4,2,1,0] (fun k:Nat=>([(15,eU k)]:List (Nat×AV))) (fun k:Nat=>([(3,some (.mp (tf (mI 0 (jC 0 k))))),(5,some (.box [eU k]))]:List (Nat×Option Ob))) (fun k:Nat=>k≤st) (fun k:Nat=>st - k) (0);(conv=>lhs;simp only[Nf.jI,Nf.all,c6,reduceAdd,reduceSub]);(all_goals skip))
   ·exact bg _
   ·exact e_ rfl (by(refine⟨.d_ (by rfl),?_⟩;refine⟨.d_ (by rfl),?_⟩;(iterate 9 refine aA ?_);(iterate 2 refine aD ?_);exact trivial)) (by(refine⟨WO.Qr rfl PS,?_⟩;refine⟨.box _ rfl ?_,?_⟩;refine⟨.d_ (by rfl),?_⟩;exact trivial;refine⟨.loop rfl,?_⟩;refine⟨.box _ rfl ?_,?_⟩;refine aD ?_;exact trivial;refine⟨.box _ rfl ?_,?_⟩;refine aD ?_;refine⟨.d_ (by rfl),?_⟩;exact trivial;refine⟨.box _ rfl ?_,?_⟩;(iterate 2 refine aD ?_);(iterate 2 refine aA ?_);exact trivial;refine⟨.box _ rfl ?_,?_⟩;refine aA ?_;exact trivial;refine⟨.box _ rfl ?_,?_⟩;refine aD ?_;exact trivial;refine⟨.box _ rfl ?_,?_⟩;refine aD ?_;refine⟨.d_ (by rfl),?_⟩;exact trivial;refine⟨.box _ rfl ?_,?_⟩;(iterate 2 refine aD ?_);(iterate 2 refine aA ?_);(iterate 2 exact trivial))) rfl
   rintro k hk
   by_cases ft:k<st
   ·have Fz:=XK k
    have il:=Rl k
    (refine TX ?_;(with_reducible apply a_.jL jW sR jY lT);(iterate 8 exact rfl);intro gR n8 q8 pf;refine He ?_;refine And.intro (show jw _ _ _ _ from⟨_,_,_,_,rfl⟩) ?_;refine QI ?_;(with_reducible apply fX);exact⟨_,_,_,_,rfl⟩;refine nz ?_;refine v7 ?_)
    exact⟨k+1,by omega,by omega,e_ rfl (by(refine⟨.d_ (by rfl),?_⟩;refine⟨.d_ (by rfl),?_⟩;(iterate 9 refine aA ?_);(iterate 2 refine aD ?_);exact trivial)) (by(refine⟨WO.DT rfl Fz.symm,?_⟩;refine⟨.box _ rfl ?_,?_⟩;refine⟨.d_ (by rfl),?_⟩;exact trivial;refine⟨.loop rfl,?_⟩;refine⟨.box _ rfl ?_,?_⟩;refine aD ?_;exact trivial;refine⟨.box _ rfl ?_,?_⟩;refine aD ?_;refine⟨.d_ (by rfl),?_⟩;exact trivial;refine⟨.box _ rfl ?_,?_⟩;(iterate 2 refine aD ?_);(iterate 2 refine aA ?_);exact trivial;refine⟨.box _ rfl ?_,?_⟩;refine aA ?_;exact trivial;refine⟨.box _ rfl ?_,?_⟩;refine aD ?_;exact trivial;refine⟨.box _ rfl ?_,?_⟩;refine aD ?_;refine⟨.d_ (by rfl),?_⟩;exact trivial;refine⟨.box _ rfl ?_,?_⟩;(iterate 2 refine aD ?_);(iterate 2 refine aA ?_);(iterate 2 exact trivial))) rfl⟩
   ·obtain rfl:k=st:=by omega
    (refine BW ?_;refine Q7 ?_;refine pQ ?_)
    show lD _ _ _
    exact e_ rfl (by(refine aA ?_;(iterate 8 refine aA ?_);refine aD ?_;exact trivial)) (by(refine⟨WO.vals rfl,?_⟩;refine⟨.box _ rfl ?_,?_⟩;refine⟨.d_ (by rfl),?_⟩;exact trivial;refine⟨.loop rfl,?_⟩;refine⟨.box _ rfl ?_,?_⟩;refine aD ?_;exact trivial;refine⟨.box _ rfl ?_,?_⟩;refine aD ?_;refine⟨.d_ (by rfl),?_⟩;exact trivial;refine⟨.box _ rfl ?_,?_⟩;(iterate 2 refine aD ?_);(iterate 2 refine aA ?_);exact trivial;refine⟨.box _ rfl ?_,?_⟩;refine aA ?_;exact trivial;refine⟨.box _ rfl ?_,?_⟩;refine aD ?_;exact trivial;refine⟨.box _ rfl ?_,?_⟩;refine aD ?_;refine⟨.d_ (by rfl),?_⟩;exact trivial;refine⟨.box _ rfl ?_,?_⟩;(iterate 2 refine aD ?_);(iterate 2 refine aA ?_);(iterate 2 exact trivial))) rfl
  ·have gZ:jO st=0:=if_neg h1
   rw[gZ]
   (refine Q5 ?_;refine yR ?_;refine zd ?_;refine zk ?_;refine AW.skip ?_;refine pQ ?_)
   show lD _ _ _
   exact e_ rfl (by(refine aA ?_;(iterate 8 refine aA ?_);refine aD ?_;exact trivial)) (by(refine⟨WO.Qr rfl PS,?_⟩;refine⟨.box _ rfl ?_,?_⟩;refine⟨.d_ (by rfl),?_⟩;exact trivial;refine⟨.loop rfl,?_⟩;refine⟨.box _ rfl ?_,?_⟩;refine aD ?_;exact trivial;refine⟨.box _ rfl ?_,?_⟩;refine aD ?_;refine⟨.d_ (by rfl),?_⟩;exact trivial;refine⟨.box _ rfl ?_,?_⟩;(iterate 2 refine aD ?_);(iterate 2 refine aA ?_);exact trivial;refine⟨.box _ rfl ?_,?_⟩;refine aA ?_;exact trivial;refine⟨.box _ rfl ?_,?_⟩;refine aD ?_;exact trivial;refine⟨.box _ rfl ?_,?_⟩;refine aD ?_;refine⟨.d_ (by rfl),?_⟩;exact trivial;refine⟨.box _ rfl ?_,?_⟩;(iterate 2 refine aD ?_);(iterate 2 refine aA ?_);(iterate 2 exact trivial))) rfl
 generalize D7:fJ 0 bs=fr at oT
 have B0:fr.length≤1000000:=by rw[← D7];exact GV h
 have Y6:fr.Nodup:=by rw[← D7];exact mr h.hi
 have M7:∀(k:Nat) (hk:k<fr.length),0≤fr[k].1∧∃hh:fr[k].1.toNat<fs.length,pE fs fr[k].1=fs[fr[k].1.toNat].var:=fun k hk=>by
  have hm:fr[k]∈fJ 0 bs:=by rw[D7];exact cT hk
  obtain⟨j,hj,h1,_⟩:=lu hm
  have W1:bs.length=fs.length:=h.nb.1
  refine⟨by omega,by omega,?_⟩
  unfold pE
  rw[kA aG]
 have hfk:∀(k:Nat) (hk:k<fr.length),0≤fr[k].2∧fr[k].2≤1000000:=fun k hk=>h.rk _ (by rw[D7];exact cT hk)
 generalize SB:pE fs=vr at M7 ⊢
 have hlen:∀s k,s≤st→(jX 0 st fr vr s k).length≤6000000:=fun s k hs=>by
  have h1:=AU (o:=0) (fr:=fr) (vr:=vr) (k:=k) hs
  have h2:(s+1)*fr.length≤5*1000000:=Nat.mul_le_mul aG B0
  omega
 (refine zq ?_;refine zb ?_;refine zP (oT) ?_;refine nv ?_;refine y1 ?_;refine zm ?_;refine rW ?_)
 (refine nz ?_;apply AW.fO [27,6,0,2,3,1010,1009,1007,1005,1004,1002] [9,8,7,6,4,2,1,0] (fun s:Nat=>([(28,eU s)]:List (Nat×AV))) (fun s:Nat=>([(3,some (.mp (tf (mI 0 (jX 0 st fr vr s 0))))),(5,some (.box [eU (jX 0 st fr vr s 0).length]))]:List (Nat×Option Ob))) (fun s:Nat=>s≤st) (fun s:Nat=>st - s) (0);(conv=>lhs;simp only[Nf.jI,Nf.all,c6,reduceAdd,reduceSub]);(all_goals skip))
 ·exact bg _
 ·exact e_ rfl (by(refine⟨.d_ (by first|rfl|(rw[gI,hY])),?_⟩;refine⟨.d_ (by first|rfl|(rw[gI,hY])),?_⟩;refine⟨.fb (by first|rfl|(rw[gI,hY])),?_⟩;(iterate 8 refine aA ?_);refine⟨.fb (by first|rfl|(rw[gI,hY])),?_⟩;exact trivial)) (by(refine⟨WO.DT rfl (by rw[gI]),?_⟩;refine⟨.box _ rfl ?_,?_⟩;refine⟨.d_ (by first|rfl|(rw[gI,hY])),?_⟩;exact trivial;refine⟨.loop rfl,?_⟩;refine⟨.box _ rfl ?_,?_⟩;refine⟨.fb (by first|rfl|(rw[gI,hY])),?_⟩;exact trivial;refine⟨.box _ rfl ?_,?_⟩;refine⟨.fb (by first|rfl|(rw[gI,hY])),?_⟩;refine⟨.d_ (by first|rfl|(rw[gI,hY])),?_⟩;exact trivial;refine⟨.box _ rfl ?_,?_⟩;refine⟨.fb (by first|rfl|(rw[gI,hY])),?_⟩;refine⟨.fb (by first|rfl|(rw[gI,hY])),?_⟩;(iterate 2 refine aA ?_);exact trivial;refine⟨.box _ rfl ?_,?_⟩;refine aA ?_;exact trivial;refine⟨.box _ rfl ?_,?_⟩;refine⟨.fb (by first|rfl|(rw[gI,hY])),?_⟩;exact trivial;refine⟨.box _ rfl ?_,?_⟩;refine⟨.fb (by first|rfl|(rw[gI,hY])),?_⟩;refine⟨.d_ (by first|rfl|(rw[gI,hY])),?_⟩;exact trivial;refine⟨.box _ rfl ?_,?_⟩;refine⟨.fb (by first|rfl|(rw[gI,hY])),?_⟩;refine⟨.fb (by first|rfl|(rw[gI,hY])),?_⟩;(iterate 2 refine aA ?_);(iterate 2 exact trivial))) rfl
 rintro s hs
 by_cases ft:s<st
 ·(refine nR ?_;refine tr ?_;refine uj ?_)
  (refine nz ?_;apply AW.fO [32,31,7,28,27,6,0,2,3,1010,1009,1007,1005,1004,1002] [9,8,7,6,4,2,1,0] (fun k:Nat=>([(33,eU k)]:List (Nat×AV))) (fun k:Nat=>([(3,some (.mp (tf (mI 0 (jX 0 st fr vr s k))))),(5,some (.box [eU (jX 0 st fr vr s k).length]))]:List (Nat×Option Ob))) (fun k:Nat=>k≤fr.length) (fun k:Nat=>fr.length - k) (0);(conv=>lhs;simp only[Nf.jI,Nf.all,c6,reduceAdd,reduceSub]);(all_goals skip))
  ·exact bg _
  ·exact e_ rfl (by(refine⟨.d_ (by rfl),?_⟩;refine⟨.d_ (by rfl),?_⟩;refine aD ?_;(iterate 3 refine⟨.d_ (by rfl),?_⟩);refine aD ?_;(iterate 8 refine aA ?_);refine aD ?_;exact trivial)) (by(refine⟨WO.vals rfl,?_⟩;refine⟨.box _ rfl ?_,?_⟩;refine⟨.d_ (by rfl),?_⟩;exact trivial;refine⟨.loop rfl,?_⟩;refine⟨.box _ rfl ?_,?_⟩;refine aD ?_;exact trivial;refine⟨.box _ rfl ?_,?_⟩;refine aD ?_;refine⟨.d_ (by rfl),?_⟩;exact trivial;refine⟨.box _ rfl ?_,?_⟩;(iterate 2 refine aD ?_);(iterate 2 refine aA ?_);exact trivial;refine⟨.box _ rfl ?_,?_⟩;refine aA ?_;exact trivial;refine⟨.box _ rfl ?_,?_⟩;refine aD ?_;exact trivial;refine⟨.box _ rfl ?_,?_⟩;refine aD ?_;refine⟨.d_ (by rfl),?_⟩;exact trivial;refine⟨.box _ rfl ?_,?_⟩;(iterate 2 refine aD ?_);(iterate 2 refine aA ?_);(iterate 2 exact trivial))) rfl
  rintro k hk
  have BP:=hlen s k hs
  by_cases gM:k<fr.length
  ·obtain⟨QB,Sm,yY⟩:=M7 k gM
   have gA:=WH (o:=0) (st:=st) (vr:=vr) s gM
   have Fz:=Zz (o:=0) (st:=st) (vr:=vr) s gM
   have il:=Us (st:=st) (vr:=vr) Y6 ft gM
   by_cases h0:s=0
   ·have gA:=gA (.inl h0)
    have Fz:=Fz (.inl h0)
    have il:=il (.inl h0)
    (refine rN ?_;refine ay ?_;refine UI ?_;(with_reducible apply a_.jL jW sR jY lT);(iterate 8 exact rfl);intro gR n8 q8 pf;refine He ?_;refine And.intro (show jw _ _ _ _ from⟨_,_,_,_,rfl⟩) ?_;refine QI ?_;(with_reducible apply fX);exact⟨_,_,_,_,rfl⟩;refine nz ?_;refine RF ?_)
    exact Z8
   ·cases hb:fs[fr[k].1.toNat].var with
    |true=>
     have gA:=gA (.inr (yY.trans hb))
     have Fz:=Fz (.inr (yY.trans hb))
     have il:=il (.inr (yY.trans hb))
     (refine rN ?_;refine ay ?_;refine OW ?_;refine nz ?_;refine x9 ?_;(focus ((with_reducible apply a_.e8);(iterate 7 exact rfl);omega;rotate_left;(first|omega|exact db|exact(by simp))));refine Vk ?_;(with_reducible apply a_.jL jW sR jY lT);(iterate 8 exact rfl);intro gR n8 q8 pf;refine He ?_;refine And.intro (show jw _ _ _ _ from⟨_,_,_,_,rfl⟩) ?_;refine QI ?_;(with_reducible apply fX);exact⟨_,_,_,_,rfl⟩;refine nz ?_;refine Pe ?_;refine mC ?_;refine vT ?_)
     exact Z8
    |false=>
     have ij:=Mb (o:=0) (st:=st) (vr:=vr) s gM (fun h=>h.elim h0 fun h=>by rw[yY.trans hb] at h;cases h)
     (refine rN ?_;refine ay ?_;refine OW ?_;refine nz ?_;refine x9 ?_;(focus ((with_reducible apply a_.e8);(iterate 7 exact rfl);omega;rotate_left;(first|omega|exact db|exact(by simp))));refine Ur ?_)
     exact⟨k+1,by omega,by omega,e_ rfl (by(refine⟨.d_ (by first|rfl|(rw[ij])),?_⟩;refine⟨.d_ (by first|rfl|(rw[ij])),?_⟩;refine⟨.fb (by first|rfl|(rw[ij])),?_⟩;refine⟨.d_ (by first|rfl|(rw[ij])),?_⟩;refine⟨.d_ (by first|rfl|(rw[ij])),?_⟩;refine⟨.d_ (by first|rfl|(rw[ij])),?_⟩;refine⟨.fb (by first|rfl|(rw[ij])),?_⟩;(iterate 8 refine aA ?_);refine⟨.fb (by first|rfl|(rw[ij])),?_⟩;exact trivial)) (by(refine⟨WO.DT rfl (by rw[ij]),?_⟩;refine⟨.box _ rfl ?_,?_⟩;refine⟨.d_ (by first|rfl|(rw[ij])),?_⟩;exact trivial;refine⟨.loop rfl,?_⟩;refine⟨.box _ rfl ?_,?_⟩;refine⟨.fb (by first|rfl|(rw[ij])),?_⟩;exact trivial;refine⟨.box _ rfl ?_,?_⟩;refine⟨.fb (by first|rfl|(rw[ij])),?_⟩;refine⟨.d_ (by first|rfl|(rw[ij])),?_⟩;exact trivial;refine⟨.box _ rfl ?_,?_⟩;refine⟨.fb (by first|rfl|(rw[ij])),?_⟩;refine⟨.fb (by first|rfl|(rw[ij])),?_⟩;(iterate 2 refine aA ?_);exact trivial;refine⟨.box _ rfl ?_,?_⟩;refine aA ?_;exact trivial;refine⟨.box _ rfl ?_,?_⟩;refine⟨.fb (by first|rfl|(rw[ij])),?_⟩;exact trivial;refine⟨.box _ rfl ?_,?_⟩;refine⟨.fb (by first|rfl|(rw[ij])),?_⟩;refine⟨.d_ (by first|rfl|(rw[ij])),?_⟩;exact trivial;refine⟨.box _ rfl ?_,?_⟩;refine⟨.fb (by first|rfl|(rw[ij])),?_⟩;refine⟨.fb (by first|rfl|(rw[ij])),?_⟩;(iterate 2 refine aA ?_);(iterate 2 exact trivial))) rfl⟩
  ·obtain rfl:k=fr.length:=by omega
   have kQ:=oV 0 st fr vr s
   (refine BW ?_;refine Q7 ?_;refine vT ?_)
   exact⟨s+1,by omega,by omega,e_ rfl (by(refine⟨.d_ (by first|rfl|(rw[kQ])),?_⟩;refine⟨.d_ (by first|rfl|(rw[kQ])),?_⟩;refine⟨.fb (by first|rfl|(rw[kQ])),?_⟩;(iterate 8 refine aA ?_);refine⟨.fb (by first|rfl|(rw[kQ])),?_⟩;exact trivial)) (by(refine⟨WO.DT rfl (by rw[kQ]),?_⟩;refine⟨.box _ rfl ?_,?_⟩;refine⟨.d_ (by first|rfl|(rw[kQ])),?_⟩;exact trivial;refine⟨.loop rfl,?_⟩;refine⟨.box _ rfl ?_,?_⟩;refine⟨.fb (by first|rfl|(rw[kQ])),?_⟩;exact trivial;refine⟨.box _ rfl ?_,?_⟩;refine⟨.fb (by first|rfl|(rw[kQ])),?_⟩;refine⟨.d_ (by first|rfl|(rw[kQ])),?_⟩;exact trivial;refine⟨.box _ rfl ?_,?_⟩;refine⟨.fb (by first|rfl|(rw[kQ])),?_⟩;refine⟨.fb (by first|rfl|(rw[kQ])),?_⟩;(iterate 2 refine aA ?_);exact trivial;refine⟨.box _ rfl ?_,?_⟩;refine aA ?_;exact trivial;refine⟨.box _ rfl ?_,?_⟩;refine⟨.fb (by first|rfl|(rw[kQ])),?_⟩;exact trivial;refine⟨.box _ rfl ?_,?_⟩;refine⟨.fb (by first|rfl|(rw[kQ])),?_⟩;refine⟨.d_ (by first|rfl|(rw[kQ])),?_⟩;exact trivial;refine⟨.box _ rfl ?_,?_⟩;refine⟨.fb (by first|rfl|(rw[kQ])),?_⟩;refine⟨.fb (by first|rfl|(rw[kQ])),?_⟩;(iterate 2 refine aA ?_);(iterate 2 exact trivial))) rfl⟩
 ·obtain rfl:st=s:=by omega
  rw[tC]
  have hVm:=h.mem
  have hfv:pE fs=vr:=SB
  simp only[D7,hfv] at hVm
  have hlv:nT 0 p.length (k9 fs) st vr bs p=m_ (iy 0 st fr vr) (lP p.length (k9 fs) p) (iy 0 st fr vr):=by
   rw[Kt hVm];unfold nT;rw[D7]
  rw[hlv,← tC]
  have Z9:∀v:gW,v.1<0→lP p.length (k9 fs) p v=v:=fun v hv=>by unfold lP;rw[if_neg aG]
  have hfP:∀(s k:Nat) (hk:k<fr.length),lP p.length (k9 fs) p ((s:Int),fr[k].1,fr[k].2)=((s:Int),fr[k].1,fV p.length p (k9 fs fr[k].1) fr[k].2):=fun s k hk=>by unfold lP;rw[if_pos (by show(0:Int)≤s;omega)]
  have Xn:∀(k:Nat) (hk:k<fr.length) (hh:fr[k].1.toNat<fs.length),k9 fs fr[k].1=fs[fr[k].1.toNat].sorts.length:=fun k hk hh=>by unfold k9;rw[kA hh]
  obtain⟨iF,WQ⟩:=h.pa
  have hpr:∀(ar:Nat) (t:Int),ar≤3→(0≤t∧t≤1000000)→Fn Tryz.prog 49 [pI at' (st:Int),.pv (ints p),mA ((ar:Int),[t])] (mA ((ar:Int),[fV p.length p ar t])):=fun ar t ha ht=>by
   have:=FY at' st p ar [t] WQ h.pl.1 h.pl.2 ha (fun x hx=>by rw[cp] at hx;rw[hx];exact ht) (by simp)
   rwa [List.map_singleton,HX] at this
  generalize hF:lP p.length (k9 fs) p=F at Z9 hfP ⊢
  generalize hV:jX 0 st fr vr st 0=V
  (refine BW ?_;refine CT ?_;refine H3 ?_;refine pZ ?_;refine zd ?_;refine sU ?_;refine j4 ?_;refine nG ?_;(with_reducible apply a_.inline (hf:=Tryz.func48));(with_reducible assumption);(iterate 10 exact rfl);intro g_ fu fw;refine xD ?_;refine rW ?_)
  refine AW.hZ (ps:=[30]) (by assumption) (by assumption) rfl rfl Tryz.func91 rfl rfl rfl rfl rfl rfl (by decide) ?_
  intro gC tm1 l1 ps1 asg1 body1 pY RD FD pW IL E9
  have tl:tm1.size=61:=E9
  refine AW.cut (δc:={n:=61,env:=[(0,.kS 14),(1,.ptr 12 0),(2,.ptr 13 0),(3,.ptr 11 0),(1012,.ptr 10 0),(1009,.ptr 4 0),(1007,.ptr 2 0),(1005,.ptr 1 0),(1004,.ptr 0 0)],fY:=[(10,some (.box [.own 15 3 1 ((m_ V F (jC 0 (jO st))).map encI)])),(15,some .row),(14,some (.loop l1 tm1 ps1 asg1 body1 .ready)),(13,some (.box [.pv (oW bs)])),(12,some (.box [.pv (ints at'),eU st])),(11,some (.box [.pv (.slice 2 (so.map mT)),.pv (.slice 3 (fs.map qj)),vO pr,vO fa])),(3,some (.mp (tf (mI 0 V)))),(4,some (.box [.gH 3])),(2,some (.box [.pv (ints p)])),(1,some (.box [.pv (ints at'),eU st])),(0,some (.box [.pv (.slice 2 (so.map mT)),.pv (.slice 3 (fs.map qj)),vO pr,vO fa]))],nx:=16}) ?_ ?_
  ·by_cases h1:1<st
   ·have gZ:jO st=st:=if_pos h1
    rw[gZ]
    (refine Q5 ?_;refine yR ?_;refine nD ?_;refine y1 ?_;refine zm ?_;refine rW ?_)
    (refine nz ?_;apply AW.fO [14,0,1,2,3,1012,1009,1007,1005,1004] [14,13,12,11,3,4,2,1,0] (fun k:Nat=>([(15,eU k)]:List (Nat×AV))) (fun k:Nat=>([(10,some (.box [.own 15 3 1 ((m_ V F (jC 0 k)).map encI)])),(15,some .row)]:List (Nat×Option Ob))) (fun k:Nat=>k≤st) (fun k:Nat=>st - k) (0);(conv=>lhs;simp only[Nf.jI,Nf.all,c6,reduceAdd,reduceSub]);(all_goals skip))
    ·exact bg _
    ·rw[PZ]
     exact e_ rfl (by(refine⟨.d_ (by rfl),?_⟩;refine⟨.d_ (by rfl),?_⟩;(iterate 9 refine aA ?_);exact trivial)) (by(refine⟨.box _ rfl ?_,?_⟩;refine⟨.lU _ _ _ rfl rfl,?_⟩;exact trivial;refine⟨.jv rfl,?_⟩;refine⟨.loop rfl,?_⟩;refine⟨.box _ rfl ?_,?_⟩;refine aD ?_;exact trivial;refine⟨.box _ rfl ?_,?_⟩;refine aD ?_;refine⟨.d_ (by rfl),?_⟩;exact trivial;refine⟨.box _ rfl ?_,?_⟩;(iterate 2 refine aD ?_);(iterate 2 refine aA ?_);exact trivial;refine⟨WO.vals rfl,?_⟩;refine⟨.box _ rfl ?_,?_⟩;refine aA ?_;exact trivial;refine⟨.box _ rfl ?_,?_⟩;refine aD ?_;exact trivial;refine⟨.box _ rfl ?_,?_⟩;refine aD ?_;refine⟨.d_ (by rfl),?_⟩;exact trivial;refine⟨.box _ rfl ?_,?_⟩;(iterate 2 refine aD ?_);(iterate 2 refine aA ?_);(iterate 2 exact trivial))) rfl
    rintro k hk
    have Tl:=CO V F (jC 0 k)
    rw[hY] at Tl
    by_cases ft:k<st
    ·have lK:=Xy V F Z9 k
     (refine TX ?_;(with_reducible apply a_.jL pY FD pW tl);(iterate 8 exact rfl);intro gR n8 q8 pf;refine He ?_;refine And.intro (show jw _ _ _ _ from⟨_,_,_,_,rfl⟩) ?_;refine Bo ?_;refine sU ?_;refine a_.b_ 103 0 0 rfl rfl rfl rfl ?_;refine zb ?_;refine a_.geq rfl rfl rfl rfl rfl ?_;refine mC ?_;refine gr ?_;refine Sq ?_;show a_ .held _ _ _ [_,_,_,_] _ _;refine SE ?_;intro k_ jA;refine nz ?_;refine AR.fI (i:=4) rfl aF rfl ?_;intro g_ eV hG;refine wO ?_;refine KA ?_;intro g_ eV hG;(with_reducible apply a_.fl);exact rfl;exact ai;(iterate 9 exact rfl);exact ab;refine nz ?_;refine Q3 ?_;refine HQ ?_;intro g_ eV fz;refine qn ?_;refine N5 ?_;refine gL ?_;(with_reducible apply fX);exact⟨_,_,_,_,rfl⟩;refine nz ?_;refine v7 ?_)
     exact⟨k+1,by omega,by omega,e_ rfl (by(refine⟨.d_ (by first|rfl|(rw[lK,cV];rfl)),?_⟩;refine⟨.d_ (by first|rfl|(rw[lK,cV];rfl)),?_⟩;(iterate 9 refine aA ?_);exact trivial)) (by(refine⟨.box _ rfl ?_,?_⟩;refine⟨.fR (by first|rfl|(rw[lK,cV];rfl)) rfl,?_⟩;exact trivial;refine aC ?_;refine⟨.loop rfl,?_⟩;refine⟨.box _ rfl ?_,?_⟩;refine⟨.fb (by first|rfl|(rw[lK,cV];rfl)),?_⟩;exact trivial;refine⟨.box _ rfl ?_,?_⟩;refine⟨.fb (by first|rfl|(rw[lK,cV];rfl)),?_⟩;refine⟨.d_ (by first|rfl|(rw[lK,cV];rfl)),?_⟩;exact trivial;refine⟨.box _ rfl ?_,?_⟩;refine⟨.fb (by first|rfl|(rw[lK,cV];rfl)),?_⟩;refine⟨.fb (by first|rfl|(rw[lK,cV];rfl)),?_⟩;(iterate 2 refine aA ?_);exact trivial;refine⟨WO.vals rfl,?_⟩;refine⟨.box _ rfl ?_,?_⟩;refine aA ?_;exact trivial;refine⟨.box _ rfl ?_,?_⟩;refine⟨.fb (by first|rfl|(rw[lK,cV];rfl)),?_⟩;exact trivial;refine⟨.box _ rfl ?_,?_⟩;refine⟨.fb (by first|rfl|(rw[lK,cV];rfl)),?_⟩;refine⟨.d_ (by first|rfl|(rw[lK,cV];rfl)),?_⟩;exact trivial;refine⟨.box _ rfl ?_,?_⟩;refine⟨.fb (by first|rfl|(rw[lK,cV];rfl)),?_⟩;refine⟨.fb (by first|rfl|(rw[lK,cV];rfl)),?_⟩;(iterate 2 refine aA ?_);(iterate 2 exact trivial))) rfl⟩
    ·obtain rfl:k=st:=by omega
     (refine BW ?_;refine Q7 ?_;refine pQ ?_)
     show lD _ _ _
     exact e_ rfl (by(refine aA ?_;(iterate 8 refine aA ?_);exact trivial)) (by(refine⟨.box _ rfl ?_,?_⟩;refine⟨.fR (by rfl) rfl,?_⟩;exact trivial;refine aC ?_;refine⟨.loop rfl,?_⟩;refine⟨.box _ rfl ?_,?_⟩;refine aD ?_;exact trivial;refine⟨.box _ rfl ?_,?_⟩;refine aD ?_;refine⟨.d_ (by rfl),?_⟩;exact trivial;refine⟨.box _ rfl ?_,?_⟩;(iterate 2 refine aD ?_);(iterate 2 refine aA ?_);exact trivial;refine⟨WO.vals rfl,?_⟩;refine⟨.box _ rfl ?_,?_⟩;refine aA ?_;exact trivial;refine⟨.box _ rfl ?_,?_⟩;refine aD ?_;exact trivial;refine⟨.box _ rfl ?_,?_⟩;refine aD ?_;refine⟨.d_ (by rfl),?_⟩;exact trivial;refine⟨.box _ rfl ?_,?_⟩;(iterate 2 refine aD ?_);(iterate 2 refine aA ?_);(iterate 2 exact trivial))) rfl
   ·have gZ:jO st=0:=if_neg h1
    rw[gZ,PZ]
    (refine Q5 ?_;refine yR ?_;refine zd ?_;refine zk ?_;refine AW.skip ?_;refine pQ ?_)
    show lD _ _ _
    exact e_ rfl (by(refine aA ?_;(iterate 8 refine aA ?_);exact trivial)) (by(refine⟨.box _ rfl ?_,?_⟩;refine⟨.lU _ _ _ rfl rfl,?_⟩;exact trivial;refine⟨.jv rfl,?_⟩;refine⟨.loop rfl,?_⟩;refine⟨.box _ rfl ?_,?_⟩;refine aD ?_;exact trivial;refine⟨.box _ rfl ?_,?_⟩;refine aD ?_;refine⟨.d_ (by rfl),?_⟩;exact trivial;refine⟨.box _ rfl ?_,?_⟩;(iterate 2 refine aD ?_);(iterate 2 refine aA ?_);exact trivial;refine⟨WO.vals rfl,?_⟩;refine⟨.box _ rfl ?_,?_⟩;refine aA ?_;exact trivial;refine⟨.box _ rfl ?_,?_⟩;refine aD ?_;exact trivial;refine⟨.box _ rfl ?_,?_⟩;refine aD ?_;refine⟨.d_ (by rfl),?_⟩;exact trivial;refine⟨.box _ rfl ?_,?_⟩;(iterate 2 refine aD ?_);(iterate 2 refine aA ?_);(iterate 2 exact trivial))) rfl
  (refine zq ?_;refine zb ?_;refine zP (oT) ?_;refine nv ?_;refine y1 ?_;refine zm ?_;refine rW ?_)
  (refine nz ?_;apply AW.fO [27,6,0,2,3,1012,1009,1007,1005,1004] [14,13,12,11,3,4,2,1,0] (fun s:Nat=>([(28,eU s)]:List (Nat×AV))) (fun s:Nat=>([(10,some (.box [.own 15 3 1 ((m_ V F (jX 0 st fr vr s 0)).map encI)])),(15,some .row)]:List (Nat×Option Ob))) (fun s:Nat=>s≤st) (fun s:Nat=>st - s) (0);(conv=>lhs;simp only[Nf.jI,Nf.all,c6,reduceAdd,reduceSub]);(all_goals skip))
  ·exact bg _
  ·rw[gI]
   exact e_ rfl (by(refine⟨.d_ (by rfl),?_⟩;refine⟨.d_ (by rfl),?_⟩;refine aD ?_;(iterate 8 refine aA ?_);exact trivial)) (by(refine⟨.box _ rfl ?_,?_⟩;refine⟨.fR (by rfl) rfl,?_⟩;exact trivial;refine aC ?_;refine⟨.loop rfl,?_⟩;refine⟨.box _ rfl ?_,?_⟩;refine aD ?_;exact trivial;refine⟨.box _ rfl ?_,?_⟩;refine aD ?_;refine⟨.d_ (by rfl),?_⟩;exact trivial;refine⟨.box _ rfl ?_,?_⟩;(iterate 2 refine aD ?_);(iterate 2 refine aA ?_);exact trivial;refine⟨WO.vals rfl,?_⟩;refine⟨.box _ rfl ?_,?_⟩;refine aA ?_;exact trivial;refine⟨.box _ rfl ?_,?_⟩;refine aD ?_;exact trivial;refine⟨.box _ rfl ?_,?_⟩;refine aD ?_;refine⟨.d_ (by rfl),?_⟩;exact trivial;refine⟨.box _ rfl ?_,?_⟩;(iterate 2 refine aD ?_);(iterate 2 refine aA ?_);(iterate 2 exact trivial))) rfl
  rintro s hs
  by_cases ft:s<st
  ·(refine nR ?_;refine tr ?_;refine uj ?_)
   (refine nz ?_;apply AW.fO [32,31,7,28,27,6,0,2,3,1012,1009,1007,1005,1004] [14,13,12,11,3,4,2,1,0] (fun k:Nat=>([(33,eU k)]:List (Nat×AV))) (fun k:Nat=>([(10,some (.box [.own 15 3 1 ((m_ V F (jX 0 st fr vr s k)).map encI)])),(15,some .row)]:List (Nat×Option Ob))) (fun k:Nat=>k≤fr.length) (fun k:Nat=>fr.length - k) (0);(conv=>lhs;simp only[Nf.jI,Nf.all,c6,reduceAdd,reduceSub]);(all_goals skip))
   ·exact bg _
   ·exact e_ rfl (by(refine⟨.d_ (by rfl),?_⟩;refine⟨.d_ (by rfl),?_⟩;refine aD ?_;(iterate 3 refine⟨.d_ (by rfl),?_⟩);refine aD ?_;(iterate 8 refine aA ?_);exact trivial)) (by(refine⟨.box _ rfl ?_,?_⟩;refine⟨.fR (by rfl) rfl,?_⟩;exact trivial;refine aC ?_;refine⟨.loop rfl,?_⟩;refine⟨.box _ rfl ?_,?_⟩;refine aD ?_;exact trivial;refine⟨.box _ rfl ?_,?_⟩;refine aD ?_;refine⟨.d_ (by rfl),?_⟩;exact trivial;refine⟨.box _ rfl ?_,?_⟩;(iterate 2 refine aD ?_);(iterate 2 refine aA ?_);exact trivial;refine⟨WO.vals rfl,?_⟩;refine⟨.box _ rfl ?_,?_⟩;refine aA ?_;exact trivial;refine⟨.box _ rfl ?_,?_⟩;refine aD ?_;exact trivial;refine⟨.box _ rfl ?_,?_⟩;refine aD ?_;refine⟨.d_ (by rfl),?_⟩;exact trivial;refine⟨.box _ rfl ?_,?_⟩;(iterate 2 refine aD ?_);(iterate 2 refine aA ?_);(iterate 2 exact trivial))) rfl
   rintro k hk
   have BP:=hlen s k hs
   have Tl:=CO V F (jX 0 st fr vr s k)
   by_cases gM:k<fr.length
   ·obtain⟨QB,Sm,yY⟩:=M7 k gM
    have OK:=hfk k gM
    have lK:=ZM (o:=0) (st:=st) (vr:=vr) V F s gM
    rw[hfP s k gM,Xn k gM Sm] at lK
    have mS:=hpr fs[fr[k].1.toNat].sorts.length fr[k].2 (h.ar _ (cT Sm)).2 OK
    generalize fV p.length p fs[fr[k].1.toNat].sorts.length fr[k].2=im at lK mS
    by_cases h0:s=0
    ·have lK:=lK (.inl h0)
     (refine rN ?_;refine ay ?_;refine UI ?_;(with_reducible apply a_.jL pY FD pW tl);(iterate 8 exact rfl);intro gR n8 q8 pf;refine He ?_;refine And.intro (show jw _ _ _ _ from⟨_,_,_,_,rfl⟩) ?_;refine Vc ?_;show a_ .held _ _ _ [_,_,_,_,_,_,_,_,_,_] _ _;refine J4 ?_;refine a_.b_ 103 1 1 rfl rfl rfl rfl ?_;refine zb ?_;(focus ((with_reducible apply a_.e8);(iterate 7 exact rfl);omega;rotate_left;(first|omega|exact db|exact(by simp))));refine E3 ?_;refine zn ?_;refine a_.b_ 103 2 2 rfl rfl rfl rfl ?_;refine zb ?_;refine Q3 ?_;intro k_ jA;refine nz ?_;apply AR.cut [9,8,7,6,5,4,3,2,1,0,10,11,12];intro lx;(refine AR.iI (i:=10) (j:=12) rfl aF rfl rfl ?_ ?_<;>intro g_ eV hG);refine wO ?_;refine Q3 ?_;refine VH ?_;intro g_ eV hG;refine pZ ?_;refine xN ?_;exact AR.perm aF lx;refine pZ ?_;refine Q3 ?_;refine AR.fI (i:=10) rfl aF rfl ?_;intro g_ eV hG;refine wO ?_;exact Q65;refine AR.iz (i:=13) rfl aF rfl aF ?_;intro g_ eV fz;refine VW ?_;(focus ((with_reducible apply a_.e8);(iterate 7 exact rfl);omega;rotate_left;(first|omega|exact db|exact(by simp))));refine zr ?_;refine a_.b_ 103 2 2 rfl rfl rfl rfl ?_;refine qn ?_;refine zd ?_;refine Sq ?_;show a_ .held _ _ _ [_,_,_,_] _ _;refine SE ?_;intro k_ jA;refine nz ?_;refine AR.fI (i:=4) rfl aF rfl ?_;intro g_ eV hG;refine wO ?_;refine KA ?_;intro g_ eV hG;(with_reducible apply a_.fl);exact rfl;exact ai;(iterate 9 exact rfl);exact ab;refine nz ?_;refine Q3 ?_;refine HQ ?_;intro g_ eV fz;refine qn ?_;refine N5 ?_;refine gL ?_;(with_reducible apply fX);exact⟨_,_,_,_,rfl⟩;refine nz ?_;refine RF ?_)
     exact Q20
    ·cases hb:fs[fr[k].1.toNat].var with
     |true=>
      have lK:=lK (.inr (yY.trans hb))
      (refine rN ?_;refine ay ?_;refine OW ?_;refine nz ?_;refine x9 ?_;(focus ((with_reducible apply a_.e8);(iterate 7 exact rfl);omega;rotate_left;(first|omega|exact db|exact(by simp))));refine Vk ?_;(with_reducible apply a_.jL pY FD pW tl);(iterate 8 exact rfl);intro gR n8 q8 pf;refine He ?_;refine And.intro (show jw _ _ _ _ from⟨_,_,_,_,rfl⟩) ?_;refine Vc ?_;show a_ .held _ _ _ [_,_,_,_,_,_,_,_,_,_] _ _;refine J4 ?_;refine a_.b_ 103 1 1 rfl rfl rfl rfl ?_;refine zb ?_;(focus ((with_reducible apply a_.e8);(iterate 7 exact rfl);omega;rotate_left;(first|omega|exact db|exact(by simp))));refine E3 ?_;refine zn ?_;refine a_.b_ 103 2 2 rfl rfl rfl rfl ?_;refine zb ?_;refine Q3 ?_;intro k_ jA;refine nz ?_;apply AR.cut [9,8,7,6,5,4,3,2,1,0,10,11,12];intro lx;(refine AR.iI (i:=10) (j:=12) rfl aF rfl rfl ?_ ?_<;>intro g_ eV hG);refine wO ?_;refine Q3 ?_;refine VH ?_;intro g_ eV hG;refine pZ ?_;refine xN ?_;exact AR.perm aF lx;refine pZ ?_;refine Q3 ?_;refine AR.fI (i:=10) rfl aF rfl ?_;intro g_ eV hG;refine wO ?_;exact Q65;refine AR.iz (i:=13) rfl aF rfl aF ?_;intro g_ eV fz;refine VW ?_;(focus ((with_reducible apply a_.e8);(iterate 7 exact rfl);omega;rotate_left;(first|omega|exact db|exact(by simp))));refine zr ?_;refine a_.b_ 103 2 2 rfl rfl rfl rfl ?_;refine qn ?_;refine zd ?_;refine Sq ?_;show a_ .held _ _ _ [_,_,_,_] _ _;refine SE ?_;intro k_ jA;refine nz ?_;refine AR.fI (i:=4) rfl aF rfl ?_;intro g_ eV hG;refine wO ?_;refine KA ?_;intro g_ eV hG;(with_reducible apply a_.fl);exact rfl;exact ai;(iterate 9 exact rfl);exact ab;refine nz ?_;refine Q3 ?_;refine HQ ?_;intro g_ eV fz;refine qn ?_;refine N5 ?_;refine gL ?_;(with_reducible apply fX);exact⟨_,_,_,_,rfl⟩;refine nz ?_;refine Pe ?_;refine mC ?_;refine vT ?_)
      exact Q20
     |false=>
      have ij:=Mb (o:=0) (st:=st) (vr:=vr) s gM (fun h=>h.elim h0 fun h=>by rw[yY.trans hb] at h;cases h)
      (refine rN ?_;refine ay ?_;refine OW ?_;refine nz ?_;refine x9 ?_;(focus ((with_reducible apply a_.e8);(iterate 7 exact rfl);omega;rotate_left;(first|omega|exact db|exact(by simp))));refine Ur ?_)
      exact⟨k+1,by omega,by omega,e_ rfl (by(refine⟨.d_ (by first|rfl|(rw[ij])),?_⟩;refine⟨.d_ (by first|rfl|(rw[ij])),?_⟩;refine⟨.fb (by first|rfl|(rw[ij])),?_⟩;refine⟨.d_ (by first|rfl|(rw[ij])),?_⟩;refine⟨.d_ (by first|rfl|(rw[ij])),?_⟩;refine⟨.d_ (by first|rfl|(rw[ij])),?_⟩;refine⟨.fb (by first|rfl|(rw[ij])),?_⟩;(iterate 8 refine aA ?_);exact trivial)) (by(refine⟨.box _ rfl ?_,?_⟩;refine⟨.fR (by first|rfl|(rw[ij])) rfl,?_⟩;exact trivial;refine aC ?_;refine⟨.loop rfl,?_⟩;refine⟨.box _ rfl ?_,?_⟩;refine⟨.fb (by first|rfl|(rw[ij])),?_⟩;exact trivial;refine⟨.box _ rfl ?_,?_⟩;refine⟨.fb (by first|rfl|(rw[ij])),?_⟩;refine⟨.d_ (by first|rfl|(rw[ij])),?_⟩;exact trivial;refine⟨.box _ rfl ?_,?_⟩;refine⟨.fb (by first|rfl|(rw[ij])),?_⟩;refine⟨.fb (by first|rfl|(rw[ij])),?_⟩;(iterate 2 refine aA ?_);exact trivial;refine⟨WO.vals rfl,?_⟩;refine⟨.box _ rfl ?_,?_⟩;refine aA ?_;exact trivial;refine⟨.box _ rfl ?_,?_⟩;refine⟨.fb (by first|rfl|(rw[ij])),?_⟩;exact trivial;refine⟨.box _ rfl ?_,?_⟩;refine⟨.fb (by first|rfl|(rw[ij])),?_⟩;refine⟨.d_ (by first|rfl|(rw[ij])),?_⟩;exact trivial;refine⟨.box _ rfl ?_,?_⟩;refine⟨.fb (by first|rfl|(rw[ij])),?_⟩;refine⟨.fb (by first|rfl|(rw[ij])),?_⟩;(iterate 2 refine aA ?_);(iterate 2 exact trivial))) rfl⟩
   ·obtain rfl:k=fr.length:=by omega
    have kQ:=oV 0 st fr vr s
    (refine BW ?_;refine Q7 ?_;refine vT ?_)
    exact⟨s+1,by omega,by omega,e_ rfl (by(refine⟨.d_ (by first|rfl|(rw[kQ])),?_⟩;refine⟨.d_ (by first|rfl|(rw[kQ])),?_⟩;refine⟨.fb (by first|rfl|(rw[kQ])),?_⟩;(iterate 8 refine aA ?_);exact trivial)) (by(refine⟨.box _ rfl ?_,?_⟩;refine⟨.fR (by first|rfl|(rw[kQ])) rfl,?_⟩;exact trivial;refine aC ?_;refine⟨.loop rfl,?_⟩;refine⟨.box _ rfl ?_,?_⟩;refine⟨.fb (by first|rfl|(rw[kQ])),?_⟩;exact trivial;refine⟨.box _ rfl ?_,?_⟩;refine⟨.fb (by first|rfl|(rw[kQ])),?_⟩;refine⟨.d_ (by first|rfl|(rw[kQ])),?_⟩;exact trivial;refine⟨.box _ rfl ?_,?_⟩;refine⟨.fb (by first|rfl|(rw[kQ])),?_⟩;refine⟨.fb (by first|rfl|(rw[kQ])),?_⟩;(iterate 2 refine aA ?_);exact trivial;refine⟨WO.vals rfl,?_⟩;refine⟨.box _ rfl ?_,?_⟩;refine aA ?_;exact trivial;refine⟨.box _ rfl ?_,?_⟩;refine⟨.fb (by first|rfl|(rw[kQ])),?_⟩;exact trivial;refine⟨.box _ rfl ?_,?_⟩;refine⟨.fb (by first|rfl|(rw[kQ])),?_⟩;refine⟨.d_ (by first|rfl|(rw[kQ])),?_⟩;exact trivial;refine⟨.box _ rfl ?_,?_⟩;refine⟨.fb (by first|rfl|(rw[kQ])),?_⟩;refine⟨.fb (by first|rfl|(rw[kQ])),?_⟩;(iterate 2 refine aA ?_);(iterate 2 exact trivial))) rfl⟩
  ·obtain rfl:st=s:=by omega
   rw[hV]
   (refine BW ?_;refine CT ?_;refine H3 ?_;refine zb ?_;refine Jn ?_;refine AW.ret ?_)
   (apply c_;(exact fZ.one (.tmp rfl rfl));(exact Le.own _ _ _ _ rfl))
end Go.Ab
/- Chapter 19:a reference's value,walked:the reference's Eval and the program's. -/
namespace Go.Ab
open Go Go.Proofs
open Nat (reduceAdd reduceSub)
set_option maxRecDepth 20000
set_option maxHeartbeats 4000000
attribute [local irreducible] AW a_ fT ff AR fh e6 fp fA
theorem Ff (gs:List fq) (vals:List Bool) {i:Nat} (h:i<gs.length):jE gs vals (i+1)=jE gs vals i++ [qd vals (jE gs vals i) gs[i]]:=by
 rw[jE,cO,aZ h];rfl
theorem ke.cases {gs:List fq} (hc:ke gs) {i:Nat} (h:i<gs.length):(gs[i].k=0)∨(gs[i].k=1∧1≤gs[i].a∧gs[i].a≤1000)∨(gs[i].k=2∧2≤gs[i].a∧gs[i].a<gs[i].b∧gs[i].b<2*(i:Int)):=by
 by_cases h0:i=0
 ·subst h0
  have:=hc.zero
  rw[aZ h] at this
  rw[Option.some.inj this]
  exact .inl rfl
 ·rcases hc.ok i h h0 with h1|h1
  ·exact .inr (.inl ⟨h1.1,h1.2.1,h1.2.2.1⟩)
  ·exact .inr (.inr ⟨h1.1,h1.2.1,h1.2.2.1,h1.2.2.2.1⟩)
theorem E2 {vals:List Bool} {a:Int} (h:1≤a) (h2:a≤(vals.length:Int)):jF vals a=vals[(a - 1).toNat]'(by omega):=by
 unfold jF
 rw[cO,aZ aG];rfl
theorem Bx {vals:List Bool} {a:Int} (h:1≤a) (h2:¬a≤(vals.length:Int)):jF vals a=false:=by
 unfold jF
 rw[cO,List.getElem?_eq_none aG];rfl
theorem A0 {done:List Bool} {r:Int} (h:0≤r) (h2:r<2*(done.length:Int)):yM done r=decide (done[(r / 2).toNat]'(by omega)=decide (r % 2=0)):=by
 unfold yM
 rw[cO,aZ aG]
 simp only[Option.getD_some]
 cases done[(r / 2).toNat]'(by omega)<;>cases decide (r % 2=0)<;>rfl
theorem FE (gs:List fq) (vals:List Bool) {r:Int} (h0:0≤r) {d:List Bool} (hd:d=jE gs vals ((r / 2).toNat+1)):∃h:(r / 2).toNat<d.length,gO gs vals r=decide (d[(r / 2).toNat]=decide (r % 2=0)):=by
 subst hd
 refine⟨by rw[l8];omega,?_⟩
 rw[← oM gs vals (m:=(r / 2).toNat+1) h0 aG]
 exact A0 h0 (by rw[l8];omega)
theorem wQ (gs:List fq) (vals:List Bool) (r:Int) (hc:ke gs) (hr:jl gs r) (hl:gs.length≤100000) (hv:vals.length≤100000):Fn Tryz.prog 27 [Jx gs,.pv (lS vals),eU r] (fe (gO gs vals r)):=by
 have Tz:=hr
 unfold jl at hr
 refine Fn.enter (n:=92) Tryz.func27 rfl rfl rfl rfl rfl (by decide) fun g fu fw=>?_;(try refine nz ?_)
 have p1:¬r<0:=by omega
 have p2:¬2*(gs.length:Int)≤r:=by omega
 (refine lV ?_;refine lM ?_;refine zs ?_;refine nS ?_;refine a_.b_ 44 0 0 rfl rfl rfl rfl ?_;refine x9 ?_;refine zn ?_;refine zy ?_;refine a_.mul rfl rfl rfl rfl rfl aG ?_;refine vV ?_;refine qZ ?_;refine mw ?_)
 (refine nz ?_;apply AW.fO [6,3,1,2] [0] (fun i:Nat=>([(8,eU i),(7,.own 1 4 1 ((jE gs vals i).map MN))]:List (Nat×AV))) (fun i:Nat=>([(1,some .row)]:List (Nat×Option Ob))) (fun i:Nat=>i≤(r / 2).toNat+1) (fun i:Nat=>(r / 2).toNat+1 - i) (0);(conv=>lhs;simp only[Nf.jI,Nf.all,c6,reduceAdd,reduceSub]);(all_goals skip))
 ·exact bg _
 ·exact e_ rfl (by(refine aA ?_;refine⟨.lU _ _ _ rfl rfl,?_⟩;(iterate 4 refine aA ?_);exact trivial)) (by(refine⟨.jv rfl,?_⟩;refine⟨.box _ rfl ?_,?_⟩;refine aA ?_;(iterate 2 exact trivial))) rfl
 rintro i hi
 have Nh:=l8 gs vals i
 by_cases ft:i<(r / 2).toNat+1
 ·have hig:i<gs.length:=by omega
  have Gr:=Ff gs vals hig
  have D6:(i:Int)≤r / 2:=by omega
  generalize jE gs vals i=d at Nh Gr ⊢
  rcases hc.cases hig with k0|⟨k1,a1,a2⟩|⟨k2,a1,a2,a3⟩
  ·have n1:¬gs[i].k=1:=by omega
   have n2:¬gs[i].k=2:=by omega
   have e:qd vals d gs[i]=true:=by unfold qd;rw[if_neg n1,if_neg n2]
   rw[e] at Gr
   (refine LJ ?_;refine ay ?_;refine JJ ?_;refine tH ?_;refine TI ?_;refine B1 ?_;refine BY ?_;refine q9 ?_;(with_reducible apply a_.fl);exact rfl;exact ai;(iterate 9 exact rfl);exact ab;refine uY ?_)
   exact Wb
  ·have n2:¬gs[i].k=2:=by omega
   have e:qd vals d gs[i]=jF vals gs[i].a:=by unfold qd;rw[if_pos k1]
   rw[e] at Gr
   by_cases hle:gs[i].a≤(vals.length:Int)
   ·rw[E2 a1 hle] at Gr
    (refine LJ ?_;refine ay ?_;refine JJ ?_;refine s6 ?_;refine qC ?_;refine Ia ?_;refine zm ?_;refine DF ?_;refine Gl ?_;refine a_.b_ 87 1 1 rfl rfl rfl rfl ?_;refine wc ?_;refine a_.sub rfl rfl rfl rfl rfl aG ?_;refine zt ?_;(focus ((with_reducible apply a_.e8);(iterate 7 exact rfl);omega;rotate_left;(first|omega|exact db|exact(by simp))));refine zt ?_;refine zr ?_;refine zT ?_;refine vz ?_;refine TI ?_;refine B1 ?_;refine BY ?_;refine q9 ?_;(with_reducible apply a_.fl);exact rfl;exact ai;(iterate 9 exact rfl);exact ab;refine uY ?_)
    exact Wb
   ·rw[Bx a1 hle] at Gr
    (refine LJ ?_;refine ay ?_;refine JJ ?_;refine s6 ?_;refine qC ?_;refine Ia ?_;refine zm ?_;refine DF ?_;refine zm ?_;refine QV ?_;refine vz ?_;refine TI ?_;refine B1 ?_;refine BY ?_;refine q9 ?_;(with_reducible apply a_.fl);exact rfl;exact ai;(iterate 9 exact rfl);exact ab;refine uY ?_)
    exact Wb
  ·have n1:¬gs[i].k=1:=by omega
   have e:qd vals d gs[i]=(yM d gs[i].a && yM d gs[i].b):=by unfold qd;rw[if_neg n1,if_pos k2]
   rw[e,A0 (r:=gs[i].a) aG aG,A0 (r:=gs[i].b) aG aG] at Gr
   by_cases c1:d[(gs[i].a / 2).toNat]'(by omega)=decide (gs[i].a % 2=0)
   ·rw[decide_eq_true c1,Bool.true_and] at Gr
    have c1':=decide_eq_true c1
    (refine LJ ?_;refine ay ?_;refine JJ ?_;refine tH ?_;refine TI ?_;refine s6 ?_;refine zo ?_;(with_reducible apply AW.fG);exact rfl;exact rfl;kernel_rfl;(with_reducible assumption);refine a_.gk rfl rfl rfl ?_;refine Ia ?_;refine KO ?_;(focus ((with_reducible apply a_.lI);(iterate 4 exact rfl);exact(fun h_=>by cases h_);rotate_left;(first|omega|exact db|exact(by simp))));refine Ia ?_;refine LI ?_;refine Q4 ?_;refine zo ?_;(with_reducible apply AW.fG);exact rfl;exact rfl;kernel_rfl;(with_reducible assumption);refine a_.gk rfl rfl rfl ?_;refine a_.b_ 87 2 2 rfl rfl rfl rfl ?_;refine zb ?_;refine KO ?_;(focus ((with_reducible apply a_.lI);(iterate 4 exact rfl);exact(fun h_=>by cases h_);rotate_left;(first|omega|exact db|exact(by simp))));refine a_.b_ 87 2 2 rfl rfl rfl rfl ?_;refine zb ?_;refine LI ?_;refine Q4 ?_;refine Bl ?_;refine zt ?_;refine zm ?_;refine zT ?_;refine Q4 ?_;refine BY ?_;refine q9 ?_;(with_reducible apply a_.fl);exact rfl;exact ai;(iterate 9 exact rfl);exact ab;refine uY ?_)
    exact Wb
   ·rw[decide_eq_false c1,Bool.false_and] at Gr
    have c1':=decide_eq_false c1
    (refine LJ ?_;refine ay ?_;refine JJ ?_;refine tH ?_;refine TI ?_;refine s6 ?_;refine zo ?_;(with_reducible apply AW.fG);exact rfl;exact rfl;kernel_rfl;(with_reducible assumption);refine a_.gk rfl rfl rfl ?_;refine Ia ?_;refine KO ?_;(focus ((with_reducible apply a_.lI);(iterate 4 exact rfl);exact(fun h_=>by cases h_);rotate_left;(first|omega|exact db|exact(by simp))));refine Ia ?_;refine LI ?_;refine Q4 ?_;refine zo ?_;(with_reducible apply AW.fG);exact rfl;exact rfl;kernel_rfl;(with_reducible assumption);refine a_.gk rfl rfl rfl ?_;refine a_.b_ 87 2 2 rfl rfl rfl rfl ?_;refine zb ?_;refine KO ?_;(focus ((with_reducible apply a_.lI);(iterate 4 exact rfl);exact(fun h_=>by cases h_);rotate_left;(first|omega|exact db|exact(by simp))));refine a_.b_ 87 2 2 rfl rfl rfl rfl ?_;refine zb ?_;refine LI ?_;refine Q4 ?_;refine Bl ?_;refine Sh ?_;refine Q4 ?_;refine BY ?_;refine q9 ?_;(with_reducible apply a_.fl);exact rfl;exact ai;(iterate 9 exact rfl);exact ab;refine uY ?_)
    exact Wb
 ·have he:i=(r / 2).toNat+1:=by omega
  have D6:¬(i:Int)≤r / 2:=by omega
  obtain⟨d,hd⟩:∃d,d=jE gs vals i:=⟨_,rfl⟩
  obtain⟨hd2,Nc⟩:=FE gs vals (r:=r) aG (d:=d) (by rw[hd,he])
  rw[Nc,← hd]
  rw[← hd] at Nh
  clear Nc hd
  (refine Uo ?_;refine a_.J7 rfl rfl rfl rfl rfl aG ?_;refine a_.leq rfl rfl rfl rfl rfl ?_;refine rY ?_;refine a_.gk rfl rfl rfl ?_;refine zm ?_;refine KO ?_;(focus ((with_reducible apply a_.lI);(iterate 4 exact rfl);exact(fun h_=>by cases h_);rotate_left;(first|omega|exact db|exact(by simp))));refine zm ?_;refine LI ?_;refine j7 ?_)
  (apply c_;(exact fZ.one (.tmp rfl rfl));(refine Le.fe ?_;(rfl)))
end Go.Ab
/- Chapter 24:the pools of a decoded model;small functions of layer 18,walked. -/
namespace Go.Ab
open Go Go.Proofs Go.RowKit
open Nat (reduceAdd reduceSub)
set_option maxRecDepth 20000
set_option maxHeartbeats 8000000
section
variable {q:Md} {P:Program} {g:eY} {δ:DS}
variable {ops:Array Oper} {rest:List Oper} {Q:Exit→DS→Prop} {dst:Option Nat} {ty:TypeId} {pos:String} {af:Array Edge}
def ki (Fs:Nat→Nat) (ar:Nat→Int) (us:Nat→Value) (s:Nat):List (Int×Value):=(a7 (Fs s)).map fun f=>(ar f,us (8*s+f))
theorem oH (Fs:Nat→Nat) (ar:Nat→Int) (us:Nat→Value) (s:Nat):(ki Fs ar us s).length=Fs s:=by simp [ki]
theorem DA {Fs:Nat→Nat} {ar:Nat→Int} {us:Nat→Value} {s n:Nat} (h:n<(ki Fs ar us s).length):(ki Fs ar us s)[n]=(ar n,us (8*s+n)):=by simp [ki]
theorem Mu {Fs:Nat→Nat} {ar:Nat→Int} {us:Nat→Value} {s n:Nat} (hF:∀s,Fs s≤8) (h:n<Fs s) (u:Value):iC (ki Fs ar us) s ((ki Fs ar us s).set n (ar n,u))=ki Fs ar (iC us (8*s+n) u):=by
 funext k
 have h1:=hF s
 have h2:=hF k
 unfold iC
 split
 ·rename_i e
  subst e
  apply List.ext_getElem (by simp [ki])
  intro j j1 j2
  rw[List.length_set,oH] at j1
  rw[List.getElem_set]
  simp only[ki,List.getElem_map,List.getElem_range]
  by_cases e:n=j
  ·subst e;rw[if_pos rfl,if_pos rfl]
  ·rw[if_neg e,if_neg aG]
 ·rename_i e
  unfold ki
  refine dj fun f hf=>?_
  have:=dk.1 hf
  simp only
  rw[if_neg aG]
variable {e:TypeId} {hs:Nat→Value} {Fs:Nat→Nat} {ar:Nat→Int} {us:Nat→Value} {k:Nat}
theorem a_.Ez (i:Nat) {x y:Operand} {t e':TypeId} {m:Int} (ho:δ.ob i=some (.fm ⟨e,2⟩ (rT hs (ki Fs ar us)))) (hx:δ.ev x=.pv (.lit (hs k))) (hy:δ.ev y=eU m) (ht:P.underlying t=some (.slice e')) (mL:(P.info? e').map (·.size)=some 2) (wu:fk x=true) (np:fk y=true) (hd:gb δ.n dst=true)
  (h0:0≤m) (hm:m<Fs k) (hK:a_ q P g ops rest Q (δ.eZ dst (.pv (.lit (jR (2*m.toNat) (hs k)))))):a_ q P g ops (⟨dst,.indexAddr t x y,ty,pos,af,none⟩::rest) Q δ:=
 a_.Jf i ho hx hy ht mL wu np hd h0 (by rw[oH];exact hm) hK
theorem a_.om (i:Nat) {x:Operand} {n:Nat} (ho:δ.ob i=some (.fm ⟨e,2⟩ (rT hs (ki Fs ar us)))) (hx:δ.ev x=.pv (.lit (jR (2*n) (hs k)))) (wu:fk x=true) (hd:gb δ.n dst=true)
  (hn:n<Fs k) (hK:a_ q P g ops rest Q (δ.eZ dst (.pv (.lit (jR (2*n) (hs k)))))):a_ q P g ops (⟨dst,.nilCheck x,ty,pos,af,none⟩::rest) Q δ:=
 a_.AM i ho hx wu hd (by rw[oH];exact hn) hK
theorem a_.sY (i:Nat) (t:TypeId) {x:Operand} {n:Nat} (ho:δ.ob i=some (.fm ⟨e,2⟩ (rT hs (ki Fs ar us)))) (hx:δ.ev x=.pv (.lit (jR (2*n) (hs k)))) (hB:Ex P t 1 1=true) (wu:fk x=true) (hd:gb δ.n dst=true)
  (hn:n<Fs k) (hK:a_ q P g ops rest Q (δ.eZ dst (.pv (.lit (jR (2*n+1) (hs k)))))):a_ q P g ops (⟨dst,.fieldAddr t x 1,ty,pos,af,none⟩::rest) Q δ:=
 a_.IJ i t ho hx hB wu hd (by rw[oH];exact hn) hK
theorem a_.uD (i:Nat) {x:Operand} {t:TypeId} {n:Nat} (ho:δ.ob i=some (.fm ⟨e,2⟩ (rT hs (ki Fs ar us)))) (hx:δ.ev x=.pv (.lit (jR (2*n+1) (hs k)))) (ht:iS P t=true) (wu:fk x=true) (hd:gb δ.n dst=true) (hq:q≠ .held)
  (hn:n<Fs k) (hK:a_ q P g ops rest Q (δ.eZ dst (.pv (.lit (us (8*k+n)))))):a_ q P g ops (⟨dst,.load t x,ty,pos,af,none⟩::rest) Q δ:=
 a_.KR i ho hx ht wu hd hq (by rw[oH];exact hn) (by rw[DA];exact hK)
theorem a_.Fi (i:Nat) {x y:Operand} {t:TypeId} {n:Nat} {u:Value} (ho:δ.ob i=some (.fm ⟨e,2⟩ (rT hs (ki Fs ar us)))) (hx:δ.ev x=.pv (.lit (jR (2*n+1) (hs k)))) (hy:δ.ev y=.pv (.lit u)) (ht:(P.info? t).map (·.size)=some 1) (wu:fk x=true) (np:fk y=true) (hd:gb δ.n dst=true)
  (hn:n<Fs k) (hF:∀s,Fs s≤8) (hu:u.oneCell'=true) (hK:a_ .plain P g ops rest Q ((δ.gl i (some (.fm ⟨e,2⟩ (rT hs (ki Fs ar (iC us (8*k+n) u)))))).eZ dst .any)):
  a_ .plain P g ops (⟨dst,.store t x y,ty,pos,af,none⟩::rest) Q δ:=
 a_.vm i ho hx hy ht wu np hd (by rw[oH];exact hn) hu (by rw[DA,Mu hF hn];exact hK)
end
attribute [local irreducible] AW a_ fT ff AR fh e6 fp fA jC jX iy fJ
abbrev Kv (i:Nat) (so:List sq) (fs:List gx) (pr fa:IH) (at':List Int) (st:Nat) (bs:List gv) (fr:List (Int×Int)):List (Nat×Option Ob):=[(i,some (.box [.pv (ints at'),eU (st:Int),.pv (.slice 2 (so.map mT)),.pv (.slice 3 (fs.map qj)),vO pr,vO fa,.pv (oW bs),.pv (V4 fr)]))]
theorem Ll (so:List sq) (fs:List gx) (pr fa:IH) (at':List Int) (st:Nat) (bs:List gv) (fr:List (Int×Int)):vW Tryz.prog 54 7 (Kv 6 so fs pr fa at' st bs fr) [.ptr 6 0] (Kv 6 so fs pr fa at' st bs fr) (eU (jO st:Nat)):=by
 simp only[Kv]
 by_cases h1:1<st
 ·rw[show jO st=st from if_pos h1]
  refine vW.enter (n:=14) Tryz.func54 rfl rfl rfl rfl rfl (by decide) rfl rfl fun g fu fw=>?_;refine Kj ?_
  (refine II ?_;refine O8 ?_;refine yR ?_;refine s6 ?_;refine pN ?_;refine O8 ?_;refine y1 ?_;refine Dl ?_)
  (apply jf;((exact fZ.one (.tmp rfl rfl)));((exact Fx));((refine⟨.box _ rfl ?_,?_⟩;refine Zf ?_;(iterate 2 exact trivial)));exact rfl)
 ·rw[show jO st=0 from if_neg h1]
  refine vW.enter (n:=14) Tryz.func54 rfl rfl rfl rfl rfl (by decide) rfl rfl fun g fu fw=>?_;refine Kj ?_
  (refine II ?_;refine O8 ?_;refine yR ?_;refine B1 ?_;refine pN ?_;refine j7 ?_)
  (apply jf;((exact fZ.one (.tmp rfl rfl)));((exact Fx));((refine⟨.box _ rfl ?_,?_⟩;refine Zf ?_;(iterate 2 exact trivial)));exact rfl)
theorem Qa (vals:List Bool) (v:Int) (hv:1≤v) (hl:vals.length≤1000000):vW Tryz.prog 53 7 [(2,some (.box [.pv (lS vals)]))] [eU v,.ptr 2 0] [(2,some (.box [.pv (lS vals)]))] (fe (jF vals v)):=by
 by_cases h1:v≤vals.length
 ·have ft:(v - 1).toNat<vals.length:=by omega
  have e:=E2 hv h1
  rw[e]
  refine vW.enter (n:=15) Tryz.func53 rfl rfl rfl rfl rfl (by decide) rfl rfl fun g fu fw=>?_;refine Kj ?_
  (refine zq ?_;refine Q4 ?_;refine pN ?_;refine zm ?_;refine zb ?_;refine DF ?_;refine zm ?_;refine wc ?_;refine zm ?_;refine Fk ?_;refine ax ?_;refine zt ?_;refine zr ?_;refine zT ?_;refine j7 ?_)
  (apply jf;((exact fZ.one (.tmp rfl rfl)));((exact Fx));((exact G_));exact rfl)
 ·have e:=Bx hv h1
  rw[e]
  refine vW.enter (n:=15) Tryz.func53 rfl rfl rfl rfl rfl (by decide) rfl rfl fun g fu fw=>?_;refine Kj ?_
  (refine zq ?_;refine Q4 ?_;refine pN ?_;refine zm ?_;refine zb ?_;refine DF ?_;refine zm ?_;refine PJ ?_;refine j7 ?_)
  (apply jf;((exact fZ.one (.tmp rfl rfl)));((exact Fx));((exact G_));exact rfl)
end Go.Ab
/- Chapter 24:a list copied into a pool,walked. -/
namespace Go.Ab
open Go Go.Proofs Go.RowKit
open Nat (reduceAdd reduceSub)
set_option maxRecDepth 20000
set_option maxHeartbeats 4000000
section
variable {P:Program} {g:eY} {δ:DS} {Q:Exit→DS→Prop} {b:Bool} {l:Array Oper} {c:Code}
def Stop (p:Prop):Prop:=p
theorem Stop.go {p:Prop} (h:p):Stop p:=h
theorem AW.VK (id:Nat) (h:Stop (AW P g (.seq (.region id l b) c) Q δ)):AW P g (.seq (.region id l b) c) Q δ:=h
theorem AW.UG (id:Nat) (h:Stop (AW P g (.region id l b) Q δ)):AW P g (.region id l b) Q δ:=h
theorem AW.wN (h:Stop (AW P g .ret Q δ)):AW P g .ret Q δ:=h
end
theorem AW.xt {P:Program} {g:eY} {δ:DS} {Q:Exit→DS→Prop} {c:Code} (i j k t:Nat) {e:TypeId} {hs:Nat→Value} {ls:Nat→List Int} {us:List Int} {e7:List (List PV)} (ho:δ.ob i=some (.fm ⟨e,1⟩ (pA hs ls))) (hj:δ.ob j=some .row) (ht:δ.get t=.own j e 1 e7) (he:e7=us.map fun u=>[.lit (vI u)]) (hk:hs k=.slice none 0 0)
  (hK:∀v:IH,AW P g c Q (((δ.ib (AV.kill j)).gl i (some (.fm ⟨e,1⟩ (pA (iC hs k (.slice v.a v.l v.c)) (iC ls k us))))).put t (.pv (.lit (.slice v.a v.l v.c))))):AW P g c Q δ:=
 AW.sH i j k t (us:=us.map vI) ho hj ht (by rw[he,ct];rfl) hk fun v=>by
  rw[Di hs ls k v us rfl]
  intro κ a w r
  have h0:=tS r (i:=i) (rows:=pA (iC hs k v) (iC ls k us)) (e:=e) (by show((δ.ib (AV.kill j)).gl i _).ob i=_;rw[iG,if_pos rfl]) k
  unfold pA at h0
  simp only[o8] at h0
  rcases h0.2 with ⟨rfl,_⟩|⟨b,cap,cur,rfl,_⟩
  ·exact hK ⟨none,0,0⟩ κ a w r
  ·exact hK ⟨some ⟨b,0,none⟩,_,cap⟩ κ a w r
theorem AW.EZ {P:Program} {g:eY} {δ:DS} {Q:Exit→DS→Prop} {c:Code} (i j k t:Nat) {e:TypeId} {hs:Nat→Value} {ls:Nat→List (Int×Value)} {us:List (Int×Value)} {e7:List (List PV)} (ho:δ.ob i=some (.fm ⟨e,2⟩ (rT hs ls))) (hj:δ.ob j=some .row) (ht:δ.get t=.own j e 2 e7) (he:e7=us.map fun u=>[.lit (vI u.1),.lit u.2]) (hl:us.length≤1000000) (hk:hs k=.slice none 0 0)
  (hK:∀v:IH,AW P g c Q (((δ.ib (AV.kill j)).gl i (some (.fm ⟨e,2⟩ (rT (iC hs k (.slice v.a v.l v.c)) (iC ls k us))))).put t (.pv (.lit (.slice v.a v.l v.c))))):AW P g c Q δ:=
 AW.IU i j k t ho hj ht he hl hk fun v=>by
  intro κ a w r
  have h0:=pH r (i:=i) (hs:=iC hs k v) (ls:=iC ls k us) (e:=e) (by show((δ.ib (AV.kill j)).gl i _).ob i=_;rw[iG,if_pos rfl]) k
  simp only[o8] at h0
  rcases h0.2 with ⟨rfl,_⟩|⟨b,cap,cur,rfl,_⟩
  ·exact hK ⟨none,0,0⟩ κ a w r
  ·exact hK ⟨some ⟨b,0,none⟩,_,cap⟩ κ a w r
attribute [local irreducible] AW a_ fT ff AR fh e6 fp fA vK
theorem HY (us:Nat→Value) (T:Nat→List Int) (k:Nat) (l:List Int) (hl:l.length≤1000000) (hu:us k=.slice none 0 0) (hT:T k=[]):
  Hi Tryz.prog 44 11 [(9,some (.fm ⟨3,1⟩ (pA us T)))] [.pv (ints l)] (fun _:IH=>True) (fun v=>[(9,some (.fm ⟨3,1⟩ (pA (iC us k (.slice v.a v.l v.c)) (iC T k l))))]) (fun v=> .pv (.lit (.slice v.a v.l v.c))):=by
 by_cases h0:l=[]
 ·subst h0
  have e0:([]:List Int).length=0:=rfl
  have e1:pA (iC us k (.slice none 0 0)) (iC T k [])=pA us T:=by rw[← hu,← hT,AK,AK]
  refine Hi.enter (n:=8) Tryz.func44 rfl rfl rfl rfl rfl (by decide) rfl (fun _=>rfl) fun g fu fw=>?_;refine Kj ?_
  (refine II ?_;refine zm ?_;(focus ((with_reducible apply a_.u_);(iterate 6 exact rfl);all_goals intro qp));refine zz ?_;refine pN ?_;refine Q4 ?_;refine AW.wN ?_;(all_goals skip);rotate_left;refine OC ?_;refine zm ?_;(with_reducible apply a_.fl);exact rfl;exact ai;(iterate 9 exact rfl);exact aa;refine Q0 ?_;refine Jn ?_;refine AW.wN ?_;(all_goals skip);rotate_left)
  ·refine Stop.go ?_
   refine az ?_
   rw[← e1]
   (refine AW.ret ?_;refine iU ?_)
   (apply u7 ((⟨none,0,0⟩:IH)) (trivial);((exact fZ.one (.tmp rfl rfl)));((exact Fx));((refine⟨.fm rfl (by first|with_reducible rfl|(rfl)),?_⟩;exact trivial));exact rfl)
  ·refine Stop.go ?_
   refine az ?_
   refine AW.xt 9 11 k 2 (us:=([]:List Int)) rfl rfl rfl rfl hu fun v_=>?_
   refine az ?_
   (refine AW.ret ?_)
   (apply u7 ((v_:IH)) (trivial);((exact fZ.one (.tmp rfl rfl)));((exact Fx));((refine⟨.fm rfl (by first|with_reducible rfl|(rfl)),?_⟩;exact trivial));exact rfl)
 ·have e0:0<l.length:=ef.2 h0
  have e1:¬l.map encI=[]:=by simpa using h0
  clear h0
  refine Hi.enter (n:=8) Tryz.func44 rfl rfl rfl rfl rfl (by decide) rfl (fun _=>rfl) fun g fu fw=>?_;refine Kj ?_
  (refine II ?_;refine zm ?_;(focus ((with_reducible apply a_.u_);(iterate 6 exact rfl);all_goals intro qp));refine zz ?_;refine pN ?_;refine Q4 ?_;refine AW.wN ?_;(all_goals skip);rotate_left;refine OC ?_;refine zm ?_;(with_reducible apply a_.fl);exact rfl;exact ai;(iterate 9 exact rfl);exact aa;refine Q0 ?_;refine Jn ?_;refine AW.wN ?_;(all_goals skip);rotate_left)
  ·exact absurd qp e1
  ·refine Stop.go ?_
   refine az ?_
   refine AW.xt 9 11 k 2 (us:=l) rfl rfl rfl rfl hu fun v_=>?_
   refine az ?_
   (refine AW.ret ?_)
   (apply u7 ((v_:IH)) (trivial);((exact fZ.one (.tmp rfl rfl)));((exact Fx));((refine⟨.fm rfl (by first|with_reducible rfl|(rfl)),?_⟩;exact trivial));exact rfl)
theorem Hj (l:List Int) (hl:l.length≤1000000):Fn Tryz.prog 44 [.pv (ints l)] (.pv (ints l)):=by
 by_cases h0:l=[]
 ·subst h0
  have e0:([]:List Int).length=0:=rfl
  refine Fn.enter (n:=8) Tryz.func44 rfl rfl rfl rfl rfl (by decide) fun g fu fw=>?_;refine az ?_
  (refine II ?_;refine zm ?_;(focus ((with_reducible apply a_.u_);(iterate 6 exact rfl);all_goals intro qp));refine zz ?_;refine pN ?_;refine Dl ?_;(all_goals skip);rotate_left;refine OC ?_;refine zm ?_;(with_reducible apply a_.fl);exact rfl;exact ai;(iterate 9 exact rfl);exact aa;refine Q0 ?_;refine Jn ?_;refine AW.ret ?_;(all_goals skip);rotate_left)
  all_goals (apply c_;(exact fZ.one (.tmp rfl rfl));(first|(exact Le.nil _)|(exact Le.own _ _ _ _ rfl)))
 ·have e0:0<l.length:=ef.2 h0
  have e1:¬l.map encI=[]:=by simpa using h0
  clear h0
  refine Fn.enter (n:=8) Tryz.func44 rfl rfl rfl rfl rfl (by decide) fun g fu fw=>?_;refine az ?_
  (refine II ?_;refine zm ?_;(focus ((with_reducible apply a_.u_);(iterate 6 exact rfl);all_goals intro qp));refine zz ?_;refine pN ?_;refine Dl ?_;(all_goals skip);rotate_left;refine OC ?_;refine zm ?_;(with_reducible apply a_.fl);exact rfl;exact ai;(iterate 9 exact rfl);exact aa;refine Q0 ?_;refine Jn ?_;refine AW.ret ?_;(all_goals skip);rotate_left)
  ·exact absurd qp e1
  ·(apply c_;(exact fZ.one (.tmp rfl rfl));(exact Le.own _ _ _ _ rfl))
end Go.Ab
/- Chapter 24:slices.Insert and slices.BinarySearch over a pool. -/
namespace Go.Ab
open Go Go.Proofs Go.RowKit Go.Shelf
set_option maxRecDepth 20000
set_option maxHeartbeats 4000000
def CR:Ren:=⟨fun|21=>58|27=>100|28=>101|35=>139|39=>158|n=>n,fun|3=>3|4=>4|0=>0|22=>28|n=>n,fun|n=>n⟩
theorem NF:Lays2.n21 Tryz.prog CR:={
 mixed:=by kernel_rfl
 f21:=Tryz.func58.trans (congrArg some aF)
 f27:=Tryz.func100.trans (congrArg some aF)
 f28:=Tryz.func101.trans (congrArg some aF)
 f35:=Tryz.func139.trans (congrArg some aF)
 f39:=Tryz.func158.trans (congrArg some aF)
 t0:=Tryz.underlying0
 a0:=Tryz.isAgg0
 z0:=Tryz.sizeOf0
 v0:=Tryz.zeroValue0
 t3:=Tryz.underlying3
 a3:=Tryz.isAgg3
 z3:=Tryz.sizeOf3
 v3:=Tryz.zeroValue3
 t4:=Tryz.underlying4
 a4:=Tryz.isAgg4
 z4:=Tryz.sizeOf4
 v4:=Tryz.zeroValue4
 t22:=Tryz.underlying28
 a22:=Tryz.isAgg28
 z22:=Tryz.sizeOf28
 v22:=Tryz.zeroValue28
 i3:=by kernel_rfl
}
def rJ (l:List Int) (x:Int):Nat:=l.countP fun y=>decide (y<x)
theorem Nu (l:List Int) (x:Int):rJ l x≤l.length:=List.countP_le_length
def qH (l:List Int) (x:Int):List Int:=l.take (rJ l x)++ [x]++l.drop (rJ l x)
theorem HA (j n0:Nat) (hj:Nat.beq 9 j=false) (kQ:wA n0 [(9,none),(j,none)]=true) (us:Nat→Value) (T:Nat→List Int) (k:Nat) (x:Int) (hl:(T k).length≤1000000):
  Hi Tryz.prog 58 n0 [(9,some (.fm ⟨3,1⟩ (pA us T))),(j,some .row)] [.pv (.lit (us k)),eU (rJ (T k) x:Nat),.own j 3 1 [[.lit (vI x)]]] (fun v:Value=>v.oneCell'=true)
   (fun v=>[(9,some (.fm ⟨3,1⟩ (pA (iC us k v) (iC T k (qH (T k) x))))),(j,some .row)]) (fun v=> .pv (.lit v)):=
 OF NF (enters_of Tryz.func58 rfl (by decide)) 9 j n0 hj kQ us T k (rJ (T k) x) x (Nu _ _) hl
theorem DE (n0:Nat) (kQ:wA n0 [(9,none)]=true) (us:Nat→Value) (T:Nat→List Int) (k:Nat) (x:Int) (hl:(T k).length≤1000000) (h:nY (T k)):
  vW Tryz.prog 57 n0 [(9,some (.fm ⟨3,1⟩ (pA us T)))] [.pv (.lit (us k)),eU x] [(9,some (.fm ⟨3,1⟩ (pA us T)))] (.iR [eU (rJ (T k) x:Nat),.any]):=by
 refine⟨enters_of Tryz.func57 rfl (by decide),fun g κ w vals Gx jz Tb r hs gp=>?_⟩
 have TK:(XS [(9,some (.fm ⟨3,1⟩ (pA us T)))] n0).ob 9=some (.fm ⟨3,1⟩ (pA us T)):=rfl
 obtain⟨v0,v1,rfl⟩:∃v0 v1,vals= #[v0,v1]:=by
  rcases vals with ⟨l⟩
  match l,hs with
  |[p,q],_=>exact⟨p,q,rfl⟩
 have h0:=(gp 0 v0 _ rfl rfl).lit
 have h1:=(gp 1 v1 _ rfl rfl).lit
 subst h0 h1
 have hp:=tS (e:=3) r TK k
 have hlen:(pA us T k).2.length=(T k).length:=by show((T k).map vI).length=_;rw[aX]
 rw[hlen] at hp
 have fin:∀(e:Ending) (w':World) (f:Bool),(∃q,w'=w.drewN q)→e=.returned (.tuple #[.int .i64 (rJ (T k) x:Nat),.bool f])→∃(y:Unit) (κ':Kp),PG (.iR [eU (rJ (T k) x:Nat),.any]) ((XS [(9,some (.fm ⟨3,1⟩ (pA us T)))] n0).cx g κ') w' e∧Rel g (XS [(9,some (.fm ⟨3,1⟩ (pA us T)))] n0) κ' OH w'∧∀i b,(AV.ptr i 0∈ir [(9,some (.fm ⟨3,1⟩ (pA us T)))]∨AV.gH i∈ir [(9,some (.fm ⟨3,1⟩ (pA us T)))])→κ i=some b→κ' i=some b:=fun e w' f ⟨q,hw⟩ he=>by
  subst hw
  refine⟨(),κ,⟨_,he,.iR rfl fun j u c h1 h2=>?_⟩,?_,fun i b hn=>by simp [ir] at hn⟩
  ·match j,h1,h2 with
   |0,h1,h2=>cases h1;cases h2;exact .pv (.lit _)
   |1,h1,h2=>cases h2;exact .any _
  ·exact r.ext (below_drewN (Below.refl _ _) q)
 rcases hp.2 with ⟨h1,h2⟩|⟨b,cap,cur,h1,hB,hh,hle,Lx,sE,yH⟩
 ·have hT:T k=[]:=List.eq_nil_of_length_eq_zero h2
  rw[show us k=.slice none 0 0 from h1]
  exact(Tryz.slices_BinarySearch_int_empty none 0 x w).mono fun e w' ⟨he,hw⟩=>fin e w' false ⟨0,by rw[hw];rfl⟩ (by rw[he,hT];rfl)
 ·rw[show us k=.slice (some ⟨b,0,none⟩) (T k).length cap from h1]
  have jZ:∀j,j<(T k).length→w.cell? ⟨b,0+j,none⟩=some (.int .i64 ((T k).getD j 0)):=fun j hj=>by
   rw[a6,cell_of hh,← Array.getElem?_toList]
   have:=congrArg (·[j]?) yH
   simp only[List.getElem?_take,Nat.mul_one,if_pos hj] at this
   rw[this]
   show((T k).map vI)[j]? =_
   rw[List.getElem?_map,aZ hj,kT hj];rfl
  refine(Tryz.slices_BinarySearch_int b 0 (T k).length cap (T k) x w (Nat.le_refl _) aG jZ (by rw[dF];exact h.imp (fun h=>by omega))).mono fun e w' ⟨he,q,hw⟩=>fin e w' _ ⟨q,hw⟩ (by rw[dF] at he;exact he)
end Go.Ab
/- Chapter 24:a tuple put into a decoded model,walked. -/
namespace Go.Ab
open Go Go.Proofs Go.RowKit
open Nat (reduceAdd reduceSub)
set_option maxRecDepth 20000
set_option maxHeartbeats 4000000
structure DQ where
 us:Nat→Value
 T:Nat→List Int
abbrev PR (vals:List Bool) (at':List Int) (st:Nat) (lp:Int) (Fs:Nat→Nat) (ar:Nat→Int) (hs:Nat→Value) (q:DQ):List (Nat×Option Ob):=[(2,some (.box [.pv (lS vals)])),(7,some (.box [.jd (.func 53) [] [.ptr 2 0]])),(8,some (.box [.pv (ints at'),eU (st:Int),.own 11 113 1 (jD st hs),eU lp])),(9,some (.fm ⟨3,1⟩ (pA q.us q.T))),(10,some (.fm ⟨105,2⟩ (rT hs (ki Fs ar q.us)))),(11,some .row)]
def wg (vals:List Bool) (v:Int) (T:Nat→List Int) (k:Nat) (t:Int):Nat→List Int:=if jF vals v=true then iC T k (qH (T k) t) else T
theorem xk {vals:List Bool} {v:Int} (h:jF vals v=true) (T:Nat→List Int) (k:Nat) (t:Int):wg vals v T k t=iC T k (qH (T k) t):=if_pos h
theorem BB {vals:List Bool} {v:Int} (h:jF vals v=false) (T:Nat→List Int) (k:Nat) (t:Int):wg vals v T k t=T:=if_neg (by rw[h];decide)
attribute [local irreducible] jD AW a_ fT ff AR fh e6 fp fA vK n_ qH rJ ki wg
theorem Lq (vals:List Bool) (at':List Int) (st:Nat) (lp:Int) (Fs:Nat→Nat) (ar:Nat→Int) (hs:Nat→Value) (us:Nat→Value) (T:Nat→List Int) (v s f t:Int) (hv:1≤v) (uL:vals.length≤1000000) (hF:∀s,Fs s≤8) (qo:0≤s) (mL:s.toNat<st) (QB:0≤f) (Sm:f<Fs s.toNat) (hT:(T (8*s.toNat+f.toNat)).length≤1000000) (hI:nY (T (8*s.toNat+f.toNat))):
  Hi Tryz.prog 56 13 (PR vals at' st lp Fs ar hs ⟨us,T⟩) [.agg [eU v,eU s,eU f,eU t],.ptr 7 0,.ptr 8 0] (fun _:Nat→Value=>True) (fun us'=>PR vals at' st lp Fs ar hs ⟨us',wg vals v T (8*s.toNat+f.toNat) t⟩) (fun _=> .iR []):=by
 have GA:=Qa vals v hv uL
 have yY:f.toNat<Fs s.toNat:=by omega
 have FP:=DE 15 rfl us T (8*s.toNat+f.toNat) t hT hI
 have nf:=HA 14 15 rfl rfl us T (8*s.toNat+f.toNat) t hT
 simp only[PR] at*
 cases hb:jF vals v with
 |true=>
  rw[hb] at GA
  rw[xk hb]
  refine Hi.enter (n:=42) Tryz.func56 rfl rfl rfl rfl rfl (by decide) rfl (fun _=>rfl) fun g fu fw=>?_;refine Kj ?_
  (refine zq ?_;refine HG ?_;refine nd ?_;refine zb ?_;refine a_.b_ 118 0 0 rfl rfl rfl rfl ?_;refine zb ?_;refine zX (GA) ?_;refine qi ?_;refine zz ?_;refine zo ?_;(with_reducible apply AW.fG);exact rfl;exact rfl;kernel_rfl;(with_reducible assumption);refine a_.b_ 61 1 2 rfl rfl rfl rfl ?_;refine zb ?_;refine a_.b_ 118 1 1 rfl rfl rfl rfl ?_;refine zb ?_;refine a_.FB rfl rfl rfl rfl rfl rfl rfl aG aG ?_;refine a_.Io rfl rfl rfl rfl (fun h_=>by cases h_) aG ?_;refine a_.b_ 118 2 2 rfl rfl rfl rfl ?_;refine zb ?_;(with_reducible apply a_.Ez 10);(iterate 8 exact rfl);exact ag;exact ag;refine Q4 ?_;refine zo ?_;refine AW.ie [0,1,2,4,5] [6] rfl (by assumption) aF aF rfl ?_;show a_ .held _ _ _ [_,_,_,_,_] _ _;refine zm ?_;(with_reducible apply a_.om 10);(iterate 4 exact rfl);exact ag;(with_reducible apply a_.sY 10 105);(iterate 5 exact rfl);exact ag;refine a_.b_ 118 3 3 rfl rfl rfl rfl ?_;refine zb ?_;refine Q3 ?_;intro k_ jA;refine Q0 ?_;refine AR.fI (i:=3) rfl aF rfl ?_;intro g_ eV hG;(with_reducible apply a_.uD 10);(iterate 5 exact rfl);exact aw;exact ag;refine Q3 ?_;refine HQ ?_;intro g_ eV fz;refine zX (FP) ?_;refine qi ?_;refine Ld ?_;intro g_ eV fz;refine a_.oQ rfl rfl rfl ?_;refine Q3 ?_;apply AR.cut [7,6,3,5,4,2,1,0,8,9,10];intro lx;apply AR.cut [7,6,3,5,4,2,1,0,8,9];intro p9;(refine AR.ua (i:=8) (j:=9) rfl aF rfl rfl aF ?_ ?_<;>intro g_ eV fz);refine E7 ?_;(refine AR.ua (i:=9) (j:=10) rfl aF rfl rfl aF ?_ ?_<;>intro g_ eV fz);refine E7 ?_;refine az ?_;refine Hp ?_;exact AR.perm aF p9;refine za ?_;refine Q3 ?_;refine EC ?_;intro g_ eV fz;refine E7 ?_;refine az ?_;refine Hp ?_;exact AR.perm aF lx;refine E7 ?_;refine Lk ?_;intro g_ eV fz;refine E7 ?_;refine az ?_;refine AR.meet p9 aF (fun g_=>e_ rfl ?_ ?_ rfl);refine⟨.any _,?_⟩;(iterate 28 refine aA ?_);exact trivial;exact Sx;refine Ae ?_;intro g_ eV fz;refine za ?_;refine Q3 ?_;refine az ?_;refine AR.meet lx aF (fun g_=>e_ rfl ?_ ?_ rfl);refine⟨.any _,?_⟩;(iterate 29 refine aA ?_);exact trivial;exact Sx;refine AR.iz (i:=11) rfl aF rfl aF ?_;intro g_ eV fz;refine a_.assign rfl rfl rfl ?_;refine Q0 ?_;refine sZ ?_;refine AW.ie [1,2,3,5,6,7] [9] rfl (by assumption) aF aF rfl ?_;show a_ .held _ _ _ [_,_,_,_,_,_] _ _;refine zm ?_;(with_reducible apply a_.om 10);(iterate 4 exact rfl);exact ag;(with_reducible apply a_.sY 10 105);(iterate 5 exact rfl);exact ag;refine zm ?_;refine a_.b_ 118 3 3 rfl rfl rfl rfl ?_;refine zb ?_;refine Q3 ?_;intro k_ jA;refine Q0 ?_;(refine AR.free 0 aF rfl rfl rfl (by first|exact jx.j_ rfl rfl|exact jx.Ba rfl rfl|exact jx.nilCheck rfl rfl) ?_);apply AR.cut [0,7,6,5,3,2,1,4,8];intro lx;(refine AR.iI (i:=4) (j:=8) rfl aF rfl rfl ?_ ?_<;>intro g_ eV hG);(with_reducible apply a_.uD 10);(iterate 5 exact rfl);exact aw;exact ag;refine Q3 ?_;refine AR.fI (i:=8) rfl aF rfl ?_;intro g_ eV hG;(with_reducible apply a_.Tv);(iterate 5 exact rfl);exact ah;exact rfl;exact rfl;refine Q0 ?_;refine Q3 ?_;refine az ?_;refine Hp ?_;exact AR.perm aF lx;(with_reducible apply a_.Tv);(iterate 5 exact rfl);exact ah;exact rfl;exact rfl;refine Q0 ?_;refine Q3 ?_;refine AR.fI (i:=4) rfl aF rfl ?_;intro g_ eV hG;(with_reducible apply a_.uD 10);(iterate 5 exact rfl);exact aw;exact ag;refine Q3 ?_;refine az ?_;refine AR.meet lx aF (fun g_=>e_ rfl ?_ ?_ rfl);(iterate 9 refine aA ?_);(iterate 2 refine⟨.any _,?_⟩);(iterate 29 refine aA ?_);exact trivial;refine aC ?_;exact Sx;refine EC ?_;intro g_ eV fz;(with_reducible apply a_.ri (hf:=nf));(with_reducible assumption);(iterate 3 exact rfl);exact au;exact al;(intro x_;exact rfl);exact rfl;exact aq;(intro x_;exact aq);(intro x_;exact rfl);exact rfl;(intro x_ Nb);refine qi ?_;refine Q3 ?_;refine Ae ?_;intro g_ eV fz;(with_reducible apply a_.om 10);(iterate 4 exact rfl);exact ag;refine Q3 ?_;refine AR.iz (i:=11) rfl aF rfl aF ?_;intro g_ eV fz;(with_reducible apply a_.sY 10 105);(iterate 5 exact rfl);exact ag;refine Q3 ?_;refine AR.iz (i:=12) rfl aF rfl aF ?_;intro g_ eV fz;(with_reducible apply a_.Fi 10);(iterate 7 exact rfl);exact ag;exact ag;exact ag;refine Q0 ?_;refine N5 ?_)
  (apply uM ((iC us (8*s.toNat+f.toNat) x_:Nat→Value)) (trivial);((exact fZ.none));((refine aA ?_;exact xE));((exact Yp));exact rfl)
 |false=>
  rw[hb] at GA
  rw[BB hb]
  refine Hi.enter (n:=42) Tryz.func56 rfl rfl rfl rfl rfl (by decide) rfl (fun _=>rfl) fun g fu fw=>?_;refine Kj ?_
  (refine zq ?_;refine HG ?_;refine nd ?_;refine zb ?_;refine a_.b_ 118 0 0 rfl rfl rfl rfl ?_;refine zb ?_;refine zX (GA) ?_;refine qi ?_;refine mC ?_)
  (apply uM ((us:Nat→Value)) (trivial);((exact fZ.none));((refine aA ?_;exact xE));((exact Yp));exact rfl)
end Go.Ab
/- Chapter 24:an assignment decoded,in plain terms. -/
namespace Go.Ab
open Go Go.Proofs Go.RowKit
set_option maxRecDepth 20000
set_option maxHeartbeats 4000000
section
variable (bs:List gv)
def yC (f:Nat):Int:=(bs.getD f ((0,[]),(0,[]))).1.1
def L1 (f:Nat):List Int:=(bs.getD f ((0,[]),(0,[]))).1.2
def Jw (F k j key:Nat):Prop:=key / 8<k∧key % 8<F∨key / 8=k∧key % 8<j
def lY (k j:Nat):Nat→List Int:=fun key=>if key / 8<k∧key % 8<bs.length∨key / 8=k∧key % 8<j then L1 bs (key % 8) else []
def D1 (k F:Nat):Nat→Nat:=fun s=>if s<k then F else 0
def Kk (ar:Nat→Int) (us:Nat→Value) (k j:Nat):List (Int×Value):=(a7 j).map fun f=>(ar f,us (8*k+f))
end
theorem CQ {bs:List gv} {f:Nat} (h:f<bs.length):yC bs f=bs[f].1.1∧L1 bs f=bs[f].1.2:=by
 unfold yC L1
 rw[cO,aZ h]
 exact⟨rfl,rfl⟩
theorem ID {bs:List gv} {k j:Nat} (hj:j<bs.length) (h8:bs.length≤8):lY bs k (j+1)=iC (lY bs k j) (8*k+j) bs[j].1.2:=by
 funext key
 unfold lY iC
 by_cases e:key=8*k+j
 ·subst e
  rw[if_pos rfl,if_pos aG,show(8*k+j) % 8=j by omega,(CQ hj).2]
 ·rw[if_neg e]
  show _=if key / 8<k∧key % 8<bs.length∨key / 8=k∧key % 8<j then L1 bs (key % 8) else []
  by_cases h:key / 8<k∧key % 8<bs.length∨key / 8=k∧key % 8<j
  ·rw[if_pos h,if_pos aG]
  ·rw[if_neg h,if_neg aG]
theorem Iu (bs:List gv) (k:Nat):lY bs k bs.length=lY bs (k+1) 0:=by
 funext key
 unfold lY
 by_cases h:key / 8<k∧key % 8<bs.length∨key / 8=k∧key % 8<bs.length
 ·rw[if_pos h,if_pos aG]
 ·rw[if_neg h,if_neg aG]
theorem gJ (bs:List gv):lY bs 0 0=fun _=>[]:=by
 funext key
 unfold lY
 rw[if_neg aG]
theorem Kd {bs:List gv} {k j:Nat} (h8:j<8):lY bs k j (8*k+j)=[]:=by
 unfold lY
 rw[if_neg aG]
theorem Km {F k j key:Nat} (h:¬Jw F k (j+1) key) (h8:j<8):key≠8*k+j∧¬Jw F k j key:=by
 unfold Jw at*
 omega
theorem Ml {F k key:Nat} (h:¬Jw F (k+1) 0 key):¬Jw F k F key:=by
 unfold Jw at*
 omega
theorem NM {F k j:Nat} (h8:j<8):¬Jw F k j (8*k+j):=by
 unfold Jw
 omega
theorem Hy {F k:Nat} {ar:Nat→Int} {us:Nat→Value}:iC (ki (D1 k F) ar us) k (Kk ar us k F)=ki (D1 (k+1) F) ar us:=by
 funext s
 unfold iC ki D1 Kk
 by_cases e:s=k
 ·subst e
  rw[if_pos rfl,if_pos aG]
 ·rw[if_neg e]
  by_cases h:s<k
  ·rw[if_pos h,if_pos aG]
  ·rw[if_neg h,if_neg aG]
theorem En {F k:Nat} {ar:Nat→Int} {us us':Nat→Value} (h:∀key,key / 8<k→us' key=us key) (hF:F≤8):iC (ki (D1 k F) ar us) k (Kk ar us' k F)=ki (D1 (k+1) F) ar us':=by
 rw[← Hy]
 congr 1
 funext s
 unfold ki D1
 refine dj fun f hf=>?_
 have hf:=dk.1 hf
 split at hf
 ·rw[h _ aG]
 ·omega
theorem gK {F:Nat} {ar:Nat→Int} {us:Nat→Value}:ki (D1 0 F) ar us=fun _=>[]:=by
 funext s
 unfold ki D1
 rw[if_neg aG];rfl
theorem Mk {ar:Nat→Int} {us:Nat→Value} {k j:Nat} (v:Value):(Kk ar us k j).map (fun u:Int×Value=>[PV.lit (vI u.1),.lit u.2])++ [[.lit (vI (ar j)),.lit v]]=(Kk ar (iC us (8*k+j) v) k (j+1)).map fun u:Int×Value=>[PV.lit (vI u.1),.lit u.2]:=by
 unfold Kk
 rw[dP,cV,cV]
 congr 1
 ·rw[ct,ct]
  refine dj fun f hf=>?_
  have:=dk.1 hf
  show [PV.lit (vI (ar f)),.lit (us (8*k+f))]=[PV.lit (vI (ar f)),.lit (iC us (8*k+j) v (8*k+f))]
  rw[tD _ _ aG]
 ·show _=[[PV.lit (vI (ar j)),.lit (iC us (8*k+j) v (8*k+j))]]
  rw[o8]
theorem H4 (h:Nat→Value):jD 0 h=[]:=rfl
theorem HV (k:Nat) (hs:Nat→Value) (v:Value):jD k hs++ [[.lit v]]=jD (k+1) (iC hs k v):=by
 rw[← HW,o8]
 congr 1
 unfold jD
 refine dj fun j hj=>?_
 rw[tD _ _ (by have:=dk.1 hj;omega)]
def lR (vals:List Bool) (v:Int) (f t:Int) (T:Nat→List Int) (n:Nat):Nat→List Int:=(a7 n).foldl (fun T s=>wg vals v T (8*s+f.toNat) t) T
def sc (vals:List Bool) (st:Nat) (vr:Int→Bool) (v:Int) (u:gW) (T:Nat→List Int):Nat→List Int:=if u.1=0∧vr u.2.1=false then lR vals v u.2.1 u.2.2 T st else wg vals v T (8*u.1.toNat+u.2.1.toNat) u.2.2
def lF (vals:List Bool) (st:Int):Nat→Int
 |0=>0
 |v+1=>if jF vals ((v+1:Nat):Int)=true then st - ((v+1:Nat):Int) else lF vals st v
end Go.Ab
/- Chapter 24:what an assignment decodes to,in plain terms. -/
namespace Go.Ab
open Go Go.Proofs Go.RowKit
set_option maxRecDepth 20000
set_option maxHeartbeats 4000000
theorem O6 (Fs:Nat→Nat) (ar:Nat→Int) (us:Nat→Value) (s:Nat):ki Fs ar us s=(a7 (Fs s)).map fun f=>(ar f,us (8*s+f)):=rfl
def vY (st:Nat) (bs:List gv) (T:Nat→List Int):List (List jc):=(a7 st).map fun s=>(a7 bs.length).map fun f=>(yC bs f,T (8*s+f))
theorem H0 (st:Nat) (bs:List gv) (T:Nat→List Int):AF st (D1 st bs.length) (yC bs) T=yL (vY st bs T):=by
 unfold AF vY
 show PV.slice 1 _=PV.slice 1 _
 rw[ct]
 congr 1
 refine dj fun s hs=>?_
 have hs:=dk.1 hs
 show [PV.slice 2 _]=[PV.slice 2 _]
 rw[show D1 st bs.length s=bs.length from if_pos hs,ct];rfl
theorem PE {a t:Int} (r:List Int) (h:a<t):qH (a::r) t=a::qH r t:=by
 unfold qH rJ
 rw[List.countP_cons,if_pos (by simpa using h),List.take_succ_cons,List.drop_succ_cons];rfl
theorem Oy {a t:Int} {r:List Int} (hi:nY (a::r)) (h:¬a<t):qH (a::r) t=t::a::r:=by
 have h0:rJ (a::r) t=0:=by
  unfold rJ
  rw[List.countP_eq_zero]
  intro x hx
  have:¬x<t:=by
   rcases br.1 hx with rfl|hx
   ·exact h
   ·have:=(eg.1 hi).1 x hx;omega
  simpa using this
 unfold qH
 rw[h0];rfl
theorem tw {t x:Int}:∀(l:List Int),x∈qH l t↔x∈l∨x=t:=fun l=>by
 unfold qH
 rw[bW,bW,cp]
 have:x∈l↔x∈l.take (rJ l t)∨x∈l.drop (rJ l t):=by rw[← bW,List.take_append_drop]
 rw[this]
 constructor
 ·rintro((h|h)|h)
  ·exact .inl (.inl h)
  ·exact .inr h
  ·exact .inl (.inr h)
 ·rintro((h|h)|h)
  ·exact .inl (.inl h)
  ·exact .inr h
  ·exact .inl (.inr h)
theorem DD {t:Int}:∀{l:List Int},nY l→t∉l→nY (qH l t)
 |[],_,_=>List.pairwise_singleton _ _
 |a::r,hi,ht=>by
  have h1:=eg.1 hi
  have BK:a≠t:=fun e=>ht (by simp [e])
  by_cases h:a<t
  ·rw[PE r h]
   refine eg.2 ⟨fun x hx=>?_,DD h1.2 fun hm=>ht (by simp [hm])⟩
   rcases(tw r).1 hx with hx|rfl
   ·exact h1.1 x hx
   ·exact h
  ·rw[Oy hi h]
   refine eg.2 ⟨fun x hx=>?_,hi⟩
   rcases br.1 hx with rfl|hx
   ·omega
   ·have:=h1.1 x hx;omega
def Mr (vr:Int→Bool) (key:Nat) (x:Int) (u:gW):Prop:=0≤u.1∧u.2.2=x∧u.2.1=((key % 8:Nat):Int)∧(u.1=((key / 8:Nat):Int)∨(u.1=0∧vr u.2.1=false))
theorem BJ {vals:List Bool} {v f t:Int} (hb:jF vals v=true) (hf:f.toNat<8) (T:Nat→List Int):∀(n key:Nat),lR vals v f t T n key=if key % 8=f.toNat∧key / 8<n then qH (T key) t else T key
 |0,key=>by rw[if_neg aG];rfl
 |n+1,key=>by
  have ih:=BJ (t:=t) hb hf T n
  have e:lR vals v f t T (n+1)=wg vals v (lR vals v f t T n) (8*n+f.toNat) t:=by
   unfold lR;rw[dP,eh];rfl
  rw[e,xk hb]
  unfold iC
  by_cases hk:key=8*n+f.toNat
  ·rw[if_pos hk,if_pos aG,← hk,ih key,if_neg aG]
  ·rw[if_neg hk,ih key]
   by_cases h:key % 8=f.toNat∧key / 8<n
   ·rw[if_pos h,if_pos aG]
   ·rw[if_neg h,if_neg aG]
theorem HT (vals:List Bool) (v f t:Int) (T:Nat→List Int) (s:Nat) (h:s=0):lR vals v f t T 1=wg vals v T (8*(s:Int).toNat+f.toNat) t:=by subst h;rfl
theorem FF (vals:List Bool) (v f t:Int) (T:Nat→List Int) (n:Nat):lR vals v f t T (n+1)=wg vals v (lR vals v f t T n) (8*(n:Int).toNat+f.toNat) t:=by
 unfold lR;rw[dP,eh];rfl
theorem AY {vals:List Bool} {v f t:Int} (hb:jF vals v=false) (T:Nat→List Int):∀n:Nat,lR vals v f t T n=T
 |0=>rfl
 |n+1=>by
  have e:lR vals v f t T (n+1)=wg vals v (lR vals v f t T n) (8*n+f.toNat) t:=by
   unfold lR;rw[dP,eh];rfl
  rw[e,BB hb,AY hb T n]
theorem DW {vals:List Bool} {v f t:Int} (hf:f.toNat<8) (T:Nat→List Int) (n:Nat):lR vals v f t T n (8*n+f.toNat)=T (8*n+f.toNat):=by
 cases hb:jF vals v with
 |true=>rw[BJ hb hf,if_neg aG]
 |false=>rw[AY hb]
instance (vr:Int→Bool) (key:Nat) (x:Int) (u:gW):Decidable (Mr vr key x u):=by unfold Mr;exact inferInstance
structure Vj (st:Nat) (vr:Int→Bool) (T0:Nat→List Int) (u:gW):Prop where
 s1:u.1<(st:Int)
 f0:0≤u.2.1
 f1:u.2.1<8
 vv:u.1=0∨vr u.2.1=true
 nw:∀key,key % 8=u.2.1.toNat→u.2.2∉T0 key
theorem FW {vals:List Bool} {st:Nat} {vr:Int→Bool} {v:Int} {u:gW} {T0 T:Nat→List Int} (hb:jF vals v=true) (h0:0≤u.1) (h:Vj st vr T0 u) (key:Nat):sc vals st vr v u T key=if key / 8<st∧Mr vr key u.2.2 u then qH (T key) u.2.2 else T key:=by
 obtain⟨h1,h2,h3,h4,_⟩:=h
 unfold sc
 by_cases hc:u.1=0∧vr u.2.1=false
 ·rw[if_pos hc,BJ hb aG]
  by_cases hk:key % 8=u.2.1.toNat∧key / 8<st
  ·rw[if_pos hk,if_pos ⟨hk.2,h0,rfl,by omega,.inr hc⟩]
  ·rw[if_neg hk,if_neg (fun h=>hk ⟨by have:=h.2.2.2.1;omega,h.1⟩)]
 ·rw[if_neg hc,xk hb]
  unfold iC
  by_cases hk:key=8*u.1.toNat+u.2.1.toNat
  ·rw[if_pos hk,if_pos ⟨by omega,h0,rfl,by omega,.inl aG⟩,hk]
  ·rw[if_neg hk,if_neg (fun h=>by
    obtain⟨_,_,_,h7,h8⟩:=h
    rcases h8 with h8|h8
    ·omega
    ·exact hc h8)]
theorem Py {vals:List Bool} {st:Nat} {vr:Int→Bool} {v:Int} {u:gW} {T:Nat→List Int} (hb:jF vals v=false):sc vals st vr v u T=T:=by
 unfold sc
 split
 ·exact AY hb _ _
 ·exact BB hb _ _ _
def mo (vals:List Bool) (st:Nat) (vr:Int→Bool):Nat→(Nat→List Int)→List gW→Nat→List Int
 |_,T,[]=>T
 |i,T,u::U=>mo vals st vr (i+1) (if u.1<0 then T else sc vals st vr ((i:Int)+1) u T) U
theorem uJ {vals:List Bool} {st:Nat} {vr:Int→Bool}:∀(U:List gW) (i:Nat) (T:Nat→List Int) (u:gW),mo vals st vr i T (U++ [u])=if u.1<0 then mo vals st vr i T U else sc vals st vr (((i+U.length:Nat):Int)+1) u (mo vals st vr i T U)
 |[],i,T,u=>rfl
 |w::U,i,T,u=>by
  show mo vals st vr (i+1) _ (U++ [u])=_
  rw[uJ U (i+1),List.length_cons,show i+1+U.length=i+(U.length+1) by omega];rfl
theorem DM {vals:List Bool} {st:Nat} {vr:Int→Bool}:∀(U:List gW) (i:Nat) (T:Nat→List Int),(∀u∈U,u.1<0)→mo vals st vr i T U=T
 |[],_,_,_=>rfl
 |u::U,i,T,h=>by
  show mo vals st vr (i+1) (if u.1<0 then T else _) U=T
  rw[if_pos (h u (by simp)),DM U (i+1) T fun w hw=>h w (by simp [hw])]
theorem Og {vr:Int→Bool} {st:Nat} {T0:Nat→List Int} {key:Nat} {x:Int} {u w:gW} (hu:Mr vr key x u) (hw:Mr vr key x w) (h1:Vj st vr T0 u) (h2:Vj st vr T0 w):u=w:=by
 obtain⟨a1,a2,a3,a4⟩:=hu
 obtain⟨b1,b2,b3,b4⟩:=hw
 have e:u.2.1=w.2.1:=by omega
 refine Prod.ext ?_ (Prod.ext e aG)
 rcases a4 with a4|⟨a4,a5⟩
 ·rcases b4 with b4|⟨b4,b5⟩
  ·omega
  ·have:=h1.vv
   rw[e,b5] at this
   rcases this with h|h
   ·omega
   ·cases h
 ·rcases b4 with b4|⟨b4,b5⟩
  ·have:=h2.vv
   rw[← e,a5] at this
   rcases this with h|h
   ·omega
   ·cases h
  ·omega
structure Cf (vals:List Bool) (st:Nat) (vr:Int→Bool) (T0:Nat→List Int) (U:List gW) (k:Nat) (T:Nat→List Int):Prop where
 inc:∀key,nY (T key)
 mem:∀key x,x∈T key↔x∈T0 key∨(key / 8<st∧∃i,∃h:i<U.length,i<k∧Mr vr key x U[i]∧jF vals ((i:Int)+1)=true)
theorem K_ {vals:List Bool} {st:Nat} {vr:Int→Bool} {T0:Nat→List Int} {U:List gW} (h0:∀key,nY (T0 key)) (hn:U.Nodup) (hU:∀u∈U,0≤u.1→Vj st vr T0 u):∀k,k≤U.length→Cf vals st vr T0 U k (mo vals st vr 0 T0 (U.take k))
 |0,_=>⟨h0,fun key x=>⟨.inl,fun h=>h.elim id fun⟨_,i,_,hi,_⟩=>by omega⟩⟩
 |k+1,hk=>by
  obtain⟨q1,q2⟩:=K_ h0 hn hU k (by omega)
  have hl:(U.take k).length=k:=by rw[List.length_take];omega
  have hm:=cT (show k<U.length by omega)
  rw[fF (show k<U.length by omega),uJ,hl,a6]
  generalize hT:mo vals st vr 0 T0 (U.take k)=T at q1 q2
  have skip:(∀key x,Mr vr key x U[k]→jF vals ((k:Int)+1)=false)→Cf vals st vr T0 U (k+1) T:=fun h=>⟨q1,fun key x=>by
   rw[q2]
   refine or_congr Iff.rfl (and_congr Iff.rfl ⟨fun⟨i,hi,h1,h2,h3⟩=>⟨i,hi,by omega,h2,h3⟩,fun⟨i,hi,h1,h2,h3⟩=>?_⟩)
   by_cases e:i=k
   ·subst e
    rw[h key x h2] at h3;cases h3
   ·exact⟨i,hi,by omega,h2,h3⟩⟩
  by_cases hs:U[k].1<0
  ·rw[if_pos hs]
   exact skip fun key x hc=>by have:=hc.1;omega
  ·rw[if_neg hs]
   cases hb:jF vals ((k:Int)+1) with
   |false=>
    rw[Py hb]
    exact skip fun _ _ _=>hb
   |true=>
    have hv:=hU _ hm (by omega)
    have RL:∀key,Mr vr key U[k].2.2 U[k]→U[k].2.2∉T key:=fun key hc hx=>by
     rcases(q2 _ _).1 hx with hx|⟨_,i,hi,h1,h2,_⟩
     ·exact hv.nw key (by have:=hc.2.2.1;omega) hx
     ·have e:=Og h2 hc (hU _ (cT hi) h2.1) hv
      have:=(List.getElem_inj hn).1 e
      omega
    refine⟨fun key=>?_,fun key x=>?_⟩
    ·rw[FW hb aG hv]
     split
     ·rename_i hc
      exact DD (q1 key) (RL key hc.2)
     ·exact q1 key
    ·rw[FW hb aG hv]
     constructor
     ·intro hx
      split at hx
      ·rename_i hc
       rcases(tw _).1 hx with hx|rfl
       ·rcases(q2 key x).1 hx with h|⟨h1,i,hi,h2,h3,h4⟩
        ·exact .inl h
        ·exact .inr ⟨h1,i,hi,by omega,h3,h4⟩
       ·exact .inr ⟨hc.1,k,by omega,by omega,hc.2,hb⟩
      ·rcases(q2 key x).1 hx with h|⟨h1,i,hi,h2,h3,h4⟩
       ·exact .inl h
       ·exact .inr ⟨h1,i,hi,by omega,h3,h4⟩
     ·intro hx
      have NZ:x∈T key→x∈(if key / 8<st∧Mr vr key U[k].2.2 U[k] then qH (T key) U[k].2.2 else T key):=fun h=>by
       split
       ·exact(tw _).2 (.inl h)
       ·exact h
      rcases hx with h|⟨h1,i,hi,h2,h3,h4⟩
      ·exact NZ ((q2 key x).2 (.inl h))
      ·by_cases e:i=k
       ·subst e
        have ex:U[i].2.2=x:=h3.2.1
        rw[ex,if_pos ⟨h1,h3⟩]
        exact(tw _).2 (.inr rfl)
       ·exact NZ ((q2 key x).2 (.inr ⟨h1,i,hi,by omega,h3,h4⟩))
theorem xu (o:Int) (st:Nat) (fr:List (Int×Int)) (vr:Int→Bool) (s:Nat):∀d k,k+d=fr.length→jX o st fr vr s k<+:jX o st fr vr (s+1) 0
 |0,k,h=>by
  obtain rfl:k=fr.length:=by omega
  rw[oV];exact ei _
 |d+1,k,h=>by
  refine List.IsPrefix.trans ?_ (xu o st fr vr s d (k+1) aG)
  rw[mu o st vr s (show k<fr.length by omega)]
  split
  ·exact List.prefix_append _ _
  ·exact ei _
theorem C2 (o:Int) (st:Nat) (fr:List (Int×Int)) (vr:Int→Bool):∀d s,s+d=st→jX o st fr vr s 0<+:iy o st fr vr
 |0,s,h=>by
  obtain rfl:s=st:=by omega
  rw[tC];exact ei _
 |d+1,s,h=>(xu o st fr vr s fr.length 0 aG).trans (C2 o st fr vr d (s+1) aG)
theorem Od (o:Int) {st:Nat} {fr:List (Int×Int)} (vr:Int→Bool) {s k:Nat} (hs:s<st) (hk:k≤fr.length):jX o st fr vr s k<+:iy o st fr vr:=
 (xu o st fr vr s (fr.length - k) k aG).trans (C2 o st fr vr (st - (s+1)) (s+1) aG)
end Go.Ab
/- Chapter 24:the rows of what an assignment decodes to,in plain terms. -/
namespace Go.Ab
open Go Go.Proofs Go.RowKit
set_option maxRecDepth 20000
set_option maxHeartbeats 4000000
structure xo (bs:List gv):Prop where
 b8:bs.length≤8
 lo:∀x∈bs,nY x.1.2∧∀t∈x.1.2,0≤t∧t<1000000
 hi:∀x∈bs,nY x.2.2∧∀t∈x.2.2,0≤t∧t<1000000
section
variable {bs:List gv} {st:Nat} {vr:Int→Bool} {vals:List Bool}
theorem Bp (bs:List gv) (st key:Nat):lY bs st 0 key=if key / 8<st∧key % 8<bs.length then L1 bs (key % 8) else []:=by
 unfold lY
 by_cases h:key / 8<st∧key % 8<bs.length
 ·rw[if_pos h,if_pos (.inl h)]
 ·rw[if_neg h,if_neg aG]
theorem CB {key:Nat} {x:Int} (hx:x∈lY bs st 0 key):∃h:key % 8<bs.length,key / 8<st∧x∈bs[key % 8].1.2:=by
 rw[Bp] at hx
 split at hx
 ·rename_i h
  rw[(CQ h.2).2] at hx
  exact⟨h.2,h.1,hx⟩
 ·cases hx
theorem Oj (h:xo bs) (key:Nat):nY (lY bs st 0 key):=by
 rw[Bp]
 split
 ·rename_i hc
  rw[(CQ hc.2).2]
  exact(h.lo _ (cT _)).1
 ·exact List.Pairwise.nil
theorem wJ {u:Int×Int} (hu:u∈fJ 0 bs):∃j,∃h:j<bs.length,u.1=(j:Int)∧u.2∈bs[j].2.2∧u.2∉bs[j].1.2:=by
 obtain⟨j,hj,h1,h2⟩:=lu hu
 rw[a6] at h1
 obtain⟨h3,h4⟩:=qK.1 h2
 exact⟨j,hj,h1,h3,h4⟩
theorem vok (h:xo bs) {u:gW} (hu:u∈iy 0 st (fJ 0 bs) vr) (h0:0≤u.1):Vj st vr (lY bs st 0) u:=by
 rcases lC.1 hu with hu|⟨h1,h2,h3⟩
 ·omega
 obtain⟨j,hj,h4,h5,h6⟩:=wJ h2
 have h4:u.2.1=(j:Int):=h4
 have h8:=h.b8
 refine⟨h1.2,by omega,by omega,h3,fun key hk hm=>?_⟩
 obtain⟨hl,_,hx⟩:=CB hm
 have e:key % 8=j:=by omega
 simp only[e] at hx
 exact h6 hx
theorem Gp (h:xo bs):∀k,k≤(iy 0 st (fJ 0 bs) vr).length→Cf vals st vr (lY bs st 0) (iy 0 st (fJ 0 bs) vr) k (mo vals st vr 0 (lY bs st 0) ((iy 0 st (fJ 0 bs) vr).take k)):=
 K_ (Oj h) (sC 0 st vr (mr fun x hx=>(h.hi x hx).1)) fun _ hu h0=>vok h hu h0
theorem NO (h:xo bs) {k key:Nat} {T:Nat→List Int} (r:Cf vals st vr (lY bs st 0) (iy 0 st (fJ 0 bs) vr) k T) {x:Int} (hx:x∈T key):0≤x∧x<1000000:=by
 rcases(r.mem key x).1 hx with hx|⟨_,i,hi,_,hc,_⟩
 ·obtain⟨hl,_,hx⟩:=CB hx
  exact(h.lo _ (cT _)).2 x hx
 ·rcases lC.1 (cT hi) with h1|⟨_,h2,_⟩
  ·have:=hc.1;omega
  ·obtain⟨j,hj,_,h5,_⟩:=wJ h2
   have:=(h.hi _ (cT hj)).2 _ h5
   simp only at this
   rw[hc.2.1] at this
   exact this
theorem OS {l:List Int} (hi:nY l) (hr:∀x∈l,0≤x∧x<1000000):l.length≤1000000:=by
 have:=rA 1000000 (l:=l.map (·+1)) (by
  refine List.Pairwise.map _ (fun a b ti e=>?_) hi
  omega) (fun x hx=>by
  obtain⟨y,hy,rfl⟩:=List.mem_map.1 hx
  have:=hr y hy
  omega)
 rwa [aX] at this
theorem NL (h:xo bs) (s k:Nat) (hs:s<st) (hk:k≤(fJ 0 bs).length) (key:Nat):nY (mo vals st vr 0 (lY bs st 0) (jX 0 st (fJ 0 bs) vr s k) key)∧(mo vals st vr 0 (lY bs st 0) (jX 0 st (fJ 0 bs) vr s k) key).length≤1000000:=by
 have hp:=Od 0 vr hs hk
 have r:=Gp (st:=st) (vr:=vr) (vals:=vals) h _ hp.length_le
 rw[← List.prefix_iff_eq_take.1 hp] at r
 exact⟨r.inc key,OS (r.inc key) fun x hx=>NO h r hx⟩
end
def rM (s:gu) (at':List Int) (st:Nat) (bs:List gv) (vals:List Bool):uf:=⟨at',st,vY st bs (mo vals st (pE s.fields) 0 (lY bs st 0) (iy 0 st (fJ 0 bs) (pE s.fields))),lF vals st (jO st)⟩
end Go.Ab
