/- Chapter 24: the predicate of a permutation, walked. -/
import Derived.Test.YtcklfjkaadfjjaaGreatAwD5
import Derived.Test.YtcklfjkaadfjjaaGreatAbZ
import Derived.Test.YtcklfjkaadfjjaaGreatAbL3
import Derived.Test.YtcklfjkaadfjjaaGreatAwJB
import Derived.Test.YtcklfjkaadfjjaaGreatAbL4
import Derived.Test.YtcklfjkaadfjjaaGreatAbL2
import Derived.Test.YtcklfjkaadfjjaaGreatAwM2
import Derived.Test.YtcklfjkaadfjjaaGreatAwE2
import Derived.Test.YtcklfjkaadfjjaaGreatAwF4
set_option linter.unusedSimpArgs false
set_option linter.unusedVariables false
open List renaming drop_eq_getElem_cons→dY,drop_length→dZ,getElem_mem→cT,drop_eq_nil_of_le→dI,mem_singleton→cp
open Nat renaming reduceBEq→c6,le_refl→aM,zero_lt_one→db,zero_le→bg,mul_le_mul_right→bR
open Bool renaming false_and→du,true_and→dt,and_false→ea
namespace Go.Ab
open Go Go.Proofs Go.RowKit
open Nat (reduceAdd reduceSub)
set_option maxRecDepth 20000
set_option maxHeartbeats 4000000
theorem ER (gs:List fq) (perm:List Int) {order:List Int} {k:Nat} (h:k<order.length):i_ gs perm (order.drop k)=yj perm order[k] (i_ gs perm (order.drop (k+1))):=by
 rw[dY h];rfl
attribute [local irreducible] AW a_ fT ff AR fh e6 fp fA jH n_ oe jy i_ jq fW Jo iD
theorem tG (gs:List fq) (perm order:List Int) (hc:ke gs) (hp:iL perm) (hn:perm.length≤1000) (ho:∀w∈order,1≤w∧w≤perm.length) (Tl:order.length≤1000) (hl:gs.length+6*order.length<18000):
  vW Tryz.prog 29 1 (bO gs) [.ptr 0 0,.pv (ints perm),.pv (ints order)] (bO (i_ gs perm order).1) (eU (i_ gs perm order).2):=by
 have ZB:=yo perm hp (by omega)
 have zV:=nj perm
 simp only[bO]
 refine vW.enter (n:=57) Tryz.func29 rfl rfl rfl rfl rfl (by decide) rfl rfl fun g fu fw=>?_;refine LF ?_
 (refine tc ?_;refine zm ?_;refine zP (ZB) ?_;refine pZ ?_;refine qn ?_;refine nd ?_;refine pZ ?_;refine qn ?_;refine zd ?_;refine rH ?_;(with_reducible apply a_.inline (hf:=Tryz.func77));(with_reducible assumption);(iterate 10 exact rfl);intro g_ fu fw;refine nz ?_;refine tc ?_;refine S0 ?_;refine nz ?_;refine qu ?_;refine pV rfl rfl ?_;refine nz ?_;refine rW ?_)
 refine AW.hZ (ps:=[19,20]) (by assumption) (by assumption) rfl rfl Tryz.func113 rfl rfl rfl rfl rfl rfl (by decide) ?_
 intro gB tm0 l0 ps0 asg0 body0 jW Hs sR jY IX uA
 have lT:tm0.size=57:=uA
 (refine Q5 ?_;refine zb ?_;refine zn ?_;refine a_.sub rfl rfl rfl rfl rfl aG ?_;refine sO ?_)
 (refine nz ?_;apply AW.fO [0,1,1008,1007,1006,1003,2000] [5,4,2,1] (fun k:Nat=>([(3,eU ((k:Int) - 1))]:List (Nat×AV))) (fun k:Nat=>([(0,some (.box [.pv (u0 (i_ gs perm (order.drop k)).1)])),(3,some (.box [eU (i_ gs perm (order.drop k)).2]))]:List (Nat×Option Ob))) (fun k:Nat=>k≤order.length) (fun k:Nat=>k) (order.length);(conv=>lhs;simp only[Nf.jI,Nf.all,c6,reduceAdd,reduceSub]);(all_goals skip))
 ·exact aM _
 ·exact e_ rfl (by(refine⟨.d_ (by first|rfl|(rw[dZ];rfl)|(rw[dZ];unfold i_;rfl)),?_⟩;(iterate 4 refine aA ?_);refine⟨.d_ (by first|rfl|(rw[dZ];rfl)|(rw[dZ];unfold i_;rfl)),?_⟩;(iterate 2 refine aA ?_);exact trivial)) (by(refine⟨.box _ rfl ?_,?_⟩;refine⟨.fb (by first|rfl|(rw[dZ];rfl)|(rw[dZ];unfold i_;rfl)),?_⟩;exact trivial;refine⟨.box _ rfl ?_,?_⟩;refine⟨.d_ (by first|rfl|(rw[dZ];rfl)|(rw[dZ];unfold i_;rfl)),?_⟩;exact trivial;refine⟨.loop rfl,?_⟩;refine⟨.box _ rfl ?_,?_⟩;refine⟨.fb (by first|rfl|(rw[dZ];rfl)|(rw[dZ];unfold i_;rfl)),?_⟩;exact trivial;refine⟨.box _ rfl ?_,?_⟩;refine⟨.fb (by first|rfl|(rw[dZ];rfl)|(rw[dZ];unfold i_;rfl)),?_⟩;exact trivial;refine⟨.box _ rfl ?_,?_⟩;refine aA ?_;(iterate 2 exact trivial))) rfl
 rintro k hk
 cases k with
 |zero=>
  rw[show(((0:Nat):Int) - 1)= -1 from rfl,List.drop_zero]
  (refine rH ?_;refine a_.geq rfl rfl rfl rfl rfl ?_;refine zd ?_;refine Ot ?_;refine ic (.inl rfl) rfl ?_;(try refine nz ?_);refine H3 ?_;refine zb ?_;refine j7 ?_)
  (apply jf;((exact fZ.one (.tmp rfl rfl)));((refine HD ?_;exact xE));((exact G_));exact rfl)
 |succ j=>
  rw[show(((j+1:Nat):Int) - 1)=(j:Int) by omega]
  have ft:j<order.length:=by omega
  have hw:=ho _ (cT ft)
  have jm:=ER gs perm ft
  have Nh:(order.drop (j+1)).length≤order.length - 1:=by rw[List.length_drop];omega
  have Jv:=wq hc hp hn (order.drop (j+1)) (fun w hw=>ho w (List.mem_of_mem_drop hw)) (by omega)
  generalize order.drop (j+1)=od at Nh jm Jv ⊢
  generalize i_ gs perm od=p at jm Jv ⊢
  obtain⟨g0,r0⟩:=p
  obtain⟨OI,Tz,Yk,DY,_,_,_⟩:=Jv
  simp only at OI Tz Yk DY ⊢
  have hb:=hp.back hw
  have yV:(order[j] - 1).toNat<(jy perm).length:=by omega
  have JY:=q_ hw yV
  unfold yj at jm
  by_cases he:gw perm order[j]=order[j]
  ·rw[if_pos he] at jm
   rw[he] at JY
   (refine QM ?_;refine a_.move rfl rfl rfl ?_;refine nz ?_;refine zm ?_;refine tM ?_;refine ay ?_;refine zr ?_;(with_reducible apply a_.jL jW sR jY lT);(iterate 8 exact rfl);intro gR n8 q8 pf;refine vU ?_;refine And.intro (show jw _ _ _ _ from⟨_,_,_,_,rfl⟩) ?_;refine Bo ?_;refine sU ?_;refine zb ?_;refine y6 ?_;(focus ((with_reducible apply a_.e8);(iterate 7 exact rfl);omega;rotate_left;(first|omega|exact db|exact(by simp))));refine zr ?_;refine rh ?_;refine s6 ?_;refine I2 ?_;(with_reducible apply fX);exact⟨_,_,_,_,rfl⟩;refine nz ?_;refine vj ?_;refine vP ?_;refine nz ?_;refine y6 ?_;refine Q4 ?_)
   exact Q57
  ·rw[if_neg he] at jm
   rw[← JY] at jm he hb
   simp only at jm
   generalize hvv:(jy perm)[(order[j] - 1).toNat]=bw at jm he hb
   have g1:=tV OI (v:=order[j]) aG (by omega)
   have x1:=Ax g0 order[j] aG OI.pos
   generalize fW g0 order[j]=i1 at g1 x1 jm
   obtain⟨gs1,r1⟩:=i1
   obtain⟨c1,q1,l1,m1⟩:=g1
   simp only at c1 q1 l1 m1 x1 jm
   have g2:=tV c1 (v:=bw) aG (by omega)
   have x2:=Ax gs1 bw aG c1.pos
   generalize fW gs1 bw=i2 at g2 x2 jm
   obtain⟨gs2,r2⟩:=i2
   obtain⟨c2,q2,l2,m2⟩:=g2
   simp only at c2 q2 l2 m2 x2 jm
   have t1:=q1.mono l2
   have b1:=q1.2
   have b1':=q1.1
   have b2:=q2.2
   have b2':=q2.1
   have n2:=pT r2 (by omega)
   have o2:=ju q2
   generalize iD r2=nr2 at n2 o2 jm
   have o2':=o2.1
   have o2'':=o2.2
   have g3:=pO c2 t1 o2 (by omega)
   have x3:=tJ gs2 r1 nr2 aG c2.pos aG (by omega)
   generalize jq gs2 r1 nr2=i3 at g3 x3 jm
   obtain⟨gs3,r3⟩:=i3
   obtain⟨c3,q3,l3,m3⟩:=g3
   simp only at c3 q3 l3 m3 x3 jm
   have b3:=q3.2
   have b3':=q3.1
   have n1:=pT r1 (by omega)
   have o1:=ju (t1.mono l3)
   generalize iD r1=nr1 at n1 o1 jm
   have o1':=o1.1
   have o1'':=o1.2
   have g4:=pO c3 o1 (q2.mono l3) (by omega)
   have x4:=tJ gs3 nr1 r2 aG c3.pos aG (by omega)
   generalize jq gs3 nr1 r2=i4 at g4 x4 jm
   obtain⟨gs4,r4⟩:=i4
   obtain⟨c4,q4,l4,m4⟩:=g4
   simp only at c4 q4 l4 m4 x4 jm
   have b4:=q4.2
   have b4':=q4.1
   have b0:=Tz.2
   have b0':=Tz.1
   have n3:=pT r3 (by omega)
   have o3:=ju (q3.mono l4)
   generalize iD r3=nr3 at n3 o3 jm
   have o3':=o3.1
   have o3'':=o3.2
   have g5:=PK c4 q4 ((((Tz.mono l1).mono l2).mono l3).mono l4) (by omega)
   have x5:=Sv gs4 r4 r0 aG c4.pos aG (by omega)
   generalize Jo gs4 r4 r0=i5 at g5 x5 jm
   obtain⟨gs5,r5⟩:=i5
   obtain⟨c5,q5,l5,m5⟩:=g5
   simp only at c5 q5 l5 m5 x5 jm
   have b5:=q5.2
   have b5':=q5.1
   have x6:=tJ gs5 nr3 r5 aG c5.pos aG (by omega)
   generalize jq gs5 nr3 r5=i6 at x6 jm
   obtain⟨gs6,r6⟩:=i6
   simp only at x6 jm
   simp only[bO] at x1 x2 x3 x4 x5 x6
   have he':¬(jy perm)[(order[j] - 1).toNat]=order[j]:=by rw[hvv];exact he
   rw[← hvv] at x2
   (refine QM ?_;refine a_.move rfl rfl rfl ?_;refine nz ?_;refine zm ?_;refine tM ?_;refine ay ?_;refine zr ?_;(with_reducible apply a_.jL jW sR jY lT);(iterate 8 exact rfl);intro gR n8 q8 pf;refine vU ?_;refine And.intro (show jw _ _ _ _ from⟨_,_,_,_,rfl⟩) ?_;refine Bo ?_;refine sU ?_;refine zb ?_;refine y6 ?_;(focus ((with_reducible apply a_.e8);(iterate 7 exact rfl);omega;rotate_left;(first|omega|exact db|exact(by simp))));refine zr ?_;refine rh ?_;refine qZ ?_;refine tM ?_;refine zX (x1) ?_;refine vn ?_;refine Q4 ?_;refine zo ?_;refine AW.ie [0,1,2,3,4,5] [6] rfl (by assumption) aF aF rfl ?_;show a_ .held _ _ _ [_,_,_,_,_,_] _ _;(iterate 2 refine zb ?_);refine y6 ?_;(focus ((with_reducible apply a_.e8);(iterate 7 exact rfl);omega;rotate_left;(first|omega|exact db|exact(by simp))));refine zr ?_;refine Q3 ?_;intro k_ jA;refine nz ?_;refine HQ ?_;intro g_ eV fz;refine zX (x2) ?_;refine vn ?_;refine Ld ?_;intro g_ eV fz;refine za ?_;refine sZ ?_;refine zo ?_;refine AW.ie [0,1,2] [4] rfl (by assumption) aF aF rfl ?_;show a_ .held _ _ _ [_,_,_] _ _;refine zb ?_;(iterate 2 refine zm ?_);refine Q3 ?_;intro k_ jA;refine Ck ?_;intro g_ eV hG;refine zA (n2) ?_;refine Q3 ?_;refine AR.iz (i:=4) rfl aF rfl aF ?_;intro g_ eV fz;refine zX (x3) ?_;refine vn ?_;refine Q3 ?_;refine AR.iz (i:=5) rfl aF rfl aF ?_;intro g_ eV fz;refine za ?_;refine sZ ?_;refine zo ?_;refine AW.ie [0,1,3] [4] rfl (by assumption) aF aF rfl ?_;show a_ .held _ _ _ [_,_,_] _ _;refine zb ?_;(iterate 2 refine zm ?_);refine Q3 ?_;intro k_ jA;refine nz ?_;refine AR.fI (i:=2) rfl aF rfl ?_;intro g_ eV hG;refine zA (n1) ?_;refine Q3 ?_;refine AR.iz (i:=4) rfl aF rfl aF ?_;intro g_ eV fz;refine zX (x4) ?_;refine vn ?_;refine Q3 ?_;refine AR.iz (i:=5) rfl aF rfl aF ?_;intro g_ eV fz;refine za ?_;refine sZ ?_;refine AW.ie [1,3,4,5] [6] rfl (by assumption) aF aF rfl ?_;show a_ .held _ _ _ [_,_,_,_] _ _;refine zm ?_;refine tM ?_;refine zb ?_;refine Q3 ?_;intro k_ jA;refine nz ?_;apply AR.cut [5,4,3,1,0,2,6];intro lx;apply AR.cut [5,4,3,1,0,2];intro p9;(refine AR.iI (i:=0) (j:=2) rfl aF rfl rfl ?_ ?_<;>intro g_ eV hG);refine zb ?_;refine Q3 ?_;refine AR.fI (i:=2) rfl aF rfl ?_;intro g_ eV hG;refine zA (n3) ?_;refine xN ?_;exact AR.perm aF p9;refine zA (n3) ?_;refine Q3 ?_;(refine AR.qM (i:=0) (j:=6) rfl aF rfl rfl aF ?_ ?_<;>intro g_ eV fz);refine zb ?_;refine sF ?_;refine AR.meet p9 aF (fun g_=>e_ rfl ?_ ?_ rfl);(iterate 60 refine aA ?_);exact trivial;refine Q8 ?_;refine⟨.loop rfl,?_⟩;(iterate 3 refine Q8 ?_);exact N6;refine zX (x5) ?_;refine vn ?_;refine Q3 ?_;refine AR.iz (i:=0) rfl aF rfl aF ?_;intro g_ eV fz;refine zb ?_;refine xN ?_;exact AR.perm aF lx;refine HQ ?_;intro g_ eV fz;refine zX (x5) ?_;refine vn ?_;refine sF ?_;refine AR.meet lx aF (fun g_=>e_ rfl ?_ ?_ rfl);(iterate 61 refine aA ?_);exact trivial;refine Q8 ?_;refine⟨.loop rfl,?_⟩;(iterate 3 refine Q8 ?_);exact N6;refine AR.iz (i:=7) rfl aF rfl aF ?_;intro g_ eV fz;refine zX (x6) ?_;refine vn ?_;refine Q3 ?_;refine Lk ?_;intro g_ eV fz;refine qn ?_;refine N5 ?_;refine gL ?_;(with_reducible apply fX);exact⟨_,_,_,_,rfl⟩;refine nz ?_;refine vj ?_;refine vP ?_;refine nz ?_;refine y6 ?_;refine Q4 ?_)
   exact Q57
end Go.Ab
/- Chapter 24:Predicate,walked. -/
namespace Go.Ab
open Go Go.Proofs Go.RowKit
open Nat (reduceAdd reduceSub)
set_option maxRecDepth 20000
set_option maxHeartbeats 4000000
attribute [local irreducible] AW a_ fT ff AR fh e6 fp fA jH n_ oe jy i_ jq fW Jo iD
theorem sy (gs:List fq) (perm order:List Int) (hc:ke gs) (hp:iL perm) (hn:perm.length≤1000) (ho:∀w∈order,1≤w∧w≤perm.length) (Tl:order.length≤1000) (hl:gs.length+6*order.length<18000):
  Fn Tryz.prog 9 [Jx gs,.pv (ints perm),.pv (ints order)] (.iR [Jx (i_ gs perm order).1,eU (i_ gs perm order).2]):=by
 have hx:=tG gs perm order hc hp hn ho Tl hl
 generalize i_ gs perm order=p at hx ⊢
 obtain⟨g1,r1⟩:=p
 simp only[bO] at hx ⊢
 refine Fn.enter (n:=22) Tryz.func9 rfl rfl rfl rfl rfl (by decide) fun g fu fw=>?_;(try refine nz ?_)
 (refine lV ?_;refine VA ?_;refine zd ?_;(with_reducible apply AW.swP 2 8 2 0);(with_reducible assumption);(iterate 3 exact rfl);(conv=>rhs;simp only[Nf.ZR,Nf.all,c6,reduceAdd,reduceSub]);refine zq ?_;refine a_.j_ rfl rfl rfl ?_;(iterate 2 refine zm ?_);refine zX (hx) ?_;refine vn ?_;refine nv ?_;refine IV ?_;refine a_.b_ 80 0 0 rfl rfl rfl rfl ?_;refine nG ?_;refine lN ?_;refine j7 ?_)
 (apply c_;(exact fZ.two (.cell rfl rfl rfl rfl) (.tmp rfl rfl));(refine Le.nV ?_;refine gX.cons ?_ ?_;refine Le.ia ?_;refine gX.cons ?_ ?_;(with_reducible exact Le.pv _);exact gX.nil;refine gX.cons ?_ ?_;refine Le.eU ?_;(rfl);exact gX.nil))
end Go.Ab
/- Chapter 24:Breaking,walked. -/
namespace Go.Ab
open Go Go.Proofs Go.RowKit
open Nat (reduceAdd reduceSub)
set_option maxRecDepth 20000
set_option maxHeartbeats 4000000
attribute [local irreducible] AW a_ fT ff AR fh e6 fp fA j5 i_ jq nq nT
theorem Jk (l:List Int) (hl:l.length≤1000000):Qb Tryz.prog 44 [.pv (ints l)] 3 1 (l.map nI):=by
 rw[show l.map nI=l.map encI from rfl]
 refine Qb.enter (n:=8) Tryz.func44 rfl rfl rfl rfl rfl (by decide) fun g fu fw=>?_;(try refine nz ?_)
 by_cases h0:l=[]
 ·subst h0
  have e0:([]:List Int).length=0:=rfl
  (refine zq ?_;refine lM ?_;(focus ((with_reducible apply a_.u_);(iterate 6 exact rfl);all_goals intro qp));refine xH ?_;(all_goals skip);rotate_left;refine O4 ?_;refine nz ?_;refine zm ?_;(with_reducible apply a_.fl);exact rfl;exact ai;(iterate 9 exact rfl);exact ab;refine sM ?_;refine AW.ret ?_;(all_goals skip);rotate_left)
  all_goals ((first|(refine nu (fZ.one (.tmp rfl rfl)) ?_)|(refine nu (fZ.one (.cell1 rfl rfl rfl rfl)) ?_)|(refine vp (fZ.one (.tmp rfl rfl)) ?_));(first|rfl|simp))
 ·have e0:0<l.length:=List.length_pos_iff.2 h0
  have e1:¬l.map encI=[]:=by simpa using h0
  clear h0
  (refine zq ?_;refine lM ?_;(focus ((with_reducible apply a_.u_);(iterate 6 exact rfl);all_goals intro qp));refine xH ?_;(all_goals skip);rotate_left;refine O4 ?_;refine nz ?_;refine zm ?_;(with_reducible apply a_.fl);exact rfl;exact ai;(iterate 9 exact rfl);exact ab;refine sM ?_;refine AW.ret ?_;(all_goals skip);rotate_left)
  ·exact absurd qp e1
  ·((first|(refine nu (fZ.one (.tmp rfl rfl)) ?_)|(refine nu (fZ.one (.cell1 rfl rfl rfl rfl)) ?_)|(refine vp (fZ.one (.tmp rfl rfl)) ?_));(first|rfl|simp))
theorem CG (s:gu) (at':List Int) (st:Nat) (bs:List gv) (ps:List (List Int)) (gs:List fq) (n:Nat) (hc:ke gs) (hL:∀p∈ps,zR s st bs p) (hP:∀p∈ps,qF n (nT 0 p.length (k9 s.fields) st (pE s.fields) bs p)) (hn:n≤1000) (hg:gs.length+ps.length*(6*n+1)<18000):
  Fn Tryz.prog 15 [De s,pI at' (st:Int),.pv (oW bs),.pv (yr ps),Jx gs] (.iR [Jx (nq gs (ps.map fun p=>nT 0 p.length (k9 s.fields) st (pE s.fields) bs p)).1,eU (nq gs (ps.map fun p=>nT 0 p.length (k9 s.fields) st (pE s.fields) bs p)).2]):=by
 have gA:=fun p h=>qt s at' st bs p (hL p h)
 obtain⟨so,fs,pr,fa⟩:=s
 simp only at*
 generalize hlf:(fun p:List Int=>nT 0 p.length (k9 fs) st (pE fs) bs p)=lf
 have Xs:∀p,nT 0 p.length (k9 fs) st (pE fs) bs p=lf p:=fun p=>by rw[← hlf]
 simp only[Xs] at gA hP
 generalize Hz:ps.map lf=ls
 have SH:ls.length=ps.length:=by rw[← Hz,List.length_map]
 have QO:=fun k hk=>Ln hc (ls:=ls) (n:=n) (by rw[← Hz];intro l hl;obtain⟨p,hp,rfl⟩:=List.mem_map.1 hl;exact hP p hp) hn (by rw[SH];exact hg) k hk
 have hpsl:ps.length≤18000:=by
  have:=Nat.le_mul_of_pos_right ps.length (show 0<6*n+1 by omega)
  omega
 refine Fn.enter (n:=58) Tryz.func15 rfl rfl rfl rfl rfl (by decide) fun g fu fw=>?_;(try refine nz ?_)
 (refine wh ?_;refine Kw ?_;refine VA ?_;refine nv ?_;refine a_.j_ rfl rfl rfl ?_;refine a_.w6 rfl rfl rfl ?_;refine a_.assign rfl rfl rfl ?_;refine nz ?_;refine zd ?_;refine zo ?_;(with_reducible apply AW.swP 3 12 4 0);(with_reducible assumption);(iterate 3 exact rfl);(conv=>rhs;simp only[Nf.ZR,Nf.all,c6,reduceAdd,reduceSub]);refine zq ?_;refine zm ?_;refine uj ?_)
 (refine nz ?_;apply AW.fO [25,24,14,12,11,10,6,5,2] [3,1,4] (fun k:Nat=>([(26,eU k),(13,eU (nq gs (ls.take k)).2)]:List (Nat×AV))) (fun k:Nat=>([(0,some (.box [.pv (u0 (nq gs (ls.take k)).1)]))]:List (Nat×Option Ob))) (fun k:Nat=>k≤ps.length) (fun k:Nat=>ps.length - k) (0);(conv=>lhs;simp only[Nf.jI,Nf.all,c6,reduceAdd,reduceSub]);(all_goals skip))
 ·exact bg _
 ·exact e_ rfl (by(refine⟨.d_ (by first|rfl|(unfold nq;rfl)),?_⟩;refine⟨.d_ (by first|rfl|(unfold nq;rfl)),?_⟩;refine⟨.d_ (by first|rfl|(unfold nq;rfl)),?_⟩;refine⟨.fb (by first|rfl|(unfold nq;rfl)),?_⟩;(iterate 2 refine aA ?_);refine⟨.d_ (by first|rfl|(unfold nq;rfl)),?_⟩;(iterate 3 refine aA ?_);refine⟨.fb (by first|rfl|(unfold nq;rfl)),?_⟩;exact trivial)) (by(refine⟨.box _ rfl ?_,?_⟩;refine⟨.fb (by first|rfl|(unfold nq;rfl)),?_⟩;exact trivial;refine⟨.box _ rfl ?_,?_⟩;refine aA ?_;exact trivial;refine⟨.box _ rfl ?_,?_⟩;refine⟨.fb (by first|rfl|(unfold nq;rfl)),?_⟩;refine⟨.d_ (by first|rfl|(unfold nq;rfl)),?_⟩;exact trivial;refine⟨.box _ rfl ?_,?_⟩;refine⟨.fb (by first|rfl|(unfold nq;rfl)),?_⟩;refine⟨.fb (by first|rfl|(unfold nq;rfl)),?_⟩;(iterate 2 refine aA ?_);(iterate 2 exact trivial))) rfl
 rintro k hk
 obtain⟨c0,r0,l0,m0,_,_,_⟩:=QO k (by omega)
 have hmul:k*(6*n+1)≤ps.length*(6*n+1):=bR _ hk
 by_cases ft:k<ps.length
 ·have P1:(k+1)*(6*n+1)≤ps.length*(6*n+1):=bR _ ft
  rw[Nat.succ_mul] at P1
  have gZ:=Co gs (ls:=ls) (k:=k) (by omega)
  have hlk:ls[k]'(by omega)=lf ps[k]:=by subst Hz;rw[List.getElem_map]
  rw[hlk] at gZ
  have hm:=cT ft
  have Ux:=hP _ hm
  have MP:=gA _ hm
  have Hk:=LM Ux
  have sB:=Ux.len
  generalize lf ps[k]=l at gZ Ux MP Hk sB
  have nt:=Jk l (by omega)
  have hq:=zH c0 Ux hn (by omega)
  unfold NC at gZ
  rw[sB] at gZ hq
  generalize nq gs (ls.take k)=p at c0 r0 l0 m0 gZ hq ⊢
  obtain⟨g0,rr⟩:=p
  simp only at c0 r0 l0 m0 gZ hq ⊢
  have Rt:=tG g0 l (ng n) c0 Ux.ok aG (fun w hw=>by rw[sB];exact wH.1 hw) (by rw[rF];omega) (by rw[rF];omega)
  generalize i_ g0 l (ng n)=q at gZ hq Rt
  obtain⟨g1,r1⟩:=q
  obtain⟨c1,s1,l1,m1,_,_,_⟩:=hq
  simp only at c1 s1 l1 m1 gZ Rt
  have q0:=(r0.mono l1).1
  have q0':=(r0.mono l1).2
  have q1:=s1.1
  have q1':=s1.2
  have W5:=tJ g1 rr r1 aG c1.pos aG (by omega)
  have ga:=pO c1 (r0.mono l1) s1 (by omega)
  generalize jq g1 rr r1=a at gZ W5 ga
  obtain⟨g2,r2⟩:=a
  simp only at gZ W5 ga
  have q2:=ga.ref.1
  rw[← Hk] at Rt
  simp only[bO] at Rt W5
  (refine rN ?_;refine ay ?_;refine zr ?_;refine nv ?_;refine j4 ?_;refine vX ?_;refine zP (MP) ?_;refine tr ?_;(with_reducible apply a_.S4 (nt));exact J5 (fun _=>⟨_,rfl⟩) _;(repeat (first|exact .nil|(refine .cons rfl ?_ ?_;(first|exact .pv _|exact .own _ _ _ _ rfl|exact .nil _|exact .any _|exact .gy _|(refine .ia ?_;repeat (first|exact .nil|(refine .cons ?_ ?_;(first|exact .pv _|exact .own _ _ _ _ rfl|exact .nil _))))))));exact rfl;refine nz ?_;refine C0 ?_;(try refine nz ?_);refine a_.Ow (Ap) [37,18,36] rfl ⟨rfl,rfl,rfl,trivial⟩ rfl rfl rfl ?_;(conv=>rhs;simp only[Nf.rwR,Nf.all,c6,reduceAdd,reduceSub]);refine nd ?_;refine a_.j_ rfl rfl rfl ?_;refine zm ?_;refine a_.iX rfl rfl rfl ?_;refine zm ?_;refine a_.gk rfl rfl rfl ?_;refine Dn ?_;refine zX (Rt) ?_;refine vn ?_;refine zX (W5) ?_;refine vn ?_;refine tr ?_;refine zs ?_;refine Mm ?_;refine mC ?_;refine vT ?_)
  exact⟨k+1,by omega,by omega,e_ rfl (by(refine⟨.d_ (by first|rfl|(rw[gZ])),?_⟩;refine⟨.d_ (by first|rfl|(rw[gZ])),?_⟩;refine⟨.d_ (by first|rfl|(rw[gZ])),?_⟩;refine⟨.fb (by first|rfl|(rw[gZ])),?_⟩;(iterate 2 refine aA ?_);refine⟨.d_ (by first|rfl|(rw[gZ])),?_⟩;(iterate 3 refine aA ?_);refine⟨.fb (by first|rfl|(rw[gZ])),?_⟩;exact trivial)) (by(refine⟨.box _ rfl ?_,?_⟩;refine⟨.fb (by first|rfl|(rw[gZ])),?_⟩;exact trivial;refine⟨.box _ rfl ?_,?_⟩;refine aA ?_;exact trivial;refine⟨.box _ rfl ?_,?_⟩;refine⟨.fb (by first|rfl|(rw[gZ])),?_⟩;refine⟨.d_ (by first|rfl|(rw[gZ])),?_⟩;exact trivial;refine⟨.box _ rfl ?_,?_⟩;refine⟨.fb (by first|rfl|(rw[gZ])),?_⟩;refine⟨.fb (by first|rfl|(rw[gZ])),?_⟩;(iterate 2 refine aA ?_);(iterate 2 exact trivial))) rfl⟩
 ·obtain rfl:k=ps.length:=by omega
  rw[← SH,List.take_length]
  (refine og ?_;refine IV ?_;refine a_.b_ 80 0 0 rfl rfl rfl rfl ?_;refine nG ?_;refine lN ?_;refine j7 ?_)
  (apply c_;(exact fZ.two (.cell rfl rfl rfl rfl) (.tmp rfl rfl));(refine Le.nV ?_;refine gX.cons ?_ ?_;refine Le.ia ?_;refine gX.cons ?_ ?_;(with_reducible exact Le.pv _);exact gX.nil;refine gX.cons ?_ ?_;refine Le.eU ?_;(rfl);exact gX.nil))
end Go.Ab
/- Chapter 24:an assignment decoded,walked. -/
namespace Go.Ab
open Go Go.Proofs Go.RowKit
open Nat (reduceAdd reduceSub)
set_option maxRecDepth 20000
set_option maxHeartbeats 8000000
section
variable {P:Program} {g:eY} {δ:DS} {Q:Exit→DS→Prop}
theorem AW.UM (n:Nat) {b:Code} (h:Stop (AW P g (.block n b) Q δ)):AW P g (.block n b) Q δ:=h
end
attribute [local irreducible] jD AW a_ fT ff AR fh e6 fp fA jC jX iy fJ vK n_ qH rJ ki
theorem Ar (s:gu) (at':List Int) (st:Nat) (bs:List gv) (vals:List Bool) (p:List Int) (hv:vals.length≤1000000) (h:zR s st bs p) (BK:at'.length≤1000000) (hD:xo bs):Fn Tryz.prog 20 [De s,pI at' (st:Int),.pv (oW bs),.pv (lS vals)] (GQ (rM s at' st bs vals)):=by
 have hb8:=hD.b8
 have S_:=NL (st:=st) (vr:=pE s.fields) (vals:=vals) hD
 have Eo:∀(k:Nat) (hk:k<(fJ 0 bs).length),0≤(fJ 0 bs)[k].1∧(∃hh:(fJ 0 bs)[k].1.toNat<s.fields.length,pE s.fields (fJ 0 bs)[k].1=s.fields[(fJ 0 bs)[k].1.toNat].var)∧∀t,t<st→(fJ 0 bs)[k].1<D1 st bs.length t:=fun k hk=>by
  obtain⟨j,hj,h1,_⟩:=wJ (cT hk)
  have W1:bs.length=s.fields.length:=h.nb.1
  refine⟨by omega,⟨by omega,?_⟩,fun t ht=>by rw[show D1 st bs.length t=bs.length from if_pos ht];omega⟩
  unfold pE
  rw[kA aG]
 unfold rM
 have I_:=h.stb.1
 have Ns:=h.stb.2
 have oT:=GU bs (by have:=h.nb.2;omega) (fun x hx=>by have:=h.sm x hx;exact⟨by omega,by omega,this.2.2⟩)
 have B0:=GV h
 obtain⟨so,fs,pr,fa⟩:=s
 simp only at S_ Eo ⊢
 have Br:=Ll so fs pr fa at' st bs (fJ 0 bs)
 have hca:=Hj at' BK
 have gZ:jO st≤4:=by unfold jO;split<;>omega
 simp only[Kv] at Br
 generalize fJ 0 bs=fr at oT B0 Br S_ Eo ⊢
 refine Fn.enter (n:=75) Tryz.func20 rfl rfl rfl rfl rfl (by decide) fun g fu fw=>?_;refine az ?_
 (refine zq ?_;(iterate 3 refine HG ?_);refine Ec ?_;refine nd ?_;refine zL ?_;refine Q0 ?_;refine zL ?_;refine Q0 ?_;refine zm ?_;(with_reducible apply a_.inline (hf:=Tryz.func52));(with_reducible assumption);(iterate 10 exact rfl);intro g_ fu fw;refine Q0 ?_;refine zq ?_;(iterate 2 refine HG ?_);refine Q4 ?_;refine zo ?_;refine AW.ie [0,1,2,3] [] rfl (by assumption) aF aF rfl ?_;show a_ .held _ _ _ [_,_,_,_] _ _;refine zL ?_;refine Q0 ?_;refine zL ?_;refine Q0 ?_;(iterate 2 refine zm ?_);refine Q3 ?_;intro k_ jA;refine Q0 ?_;refine AR.fI (i:=4) rfl aF rfl ?_;intro g_ eV hG;refine zP (oT) ?_;refine Q3 ?_;refine AR.free 5 aF rfl rfl rfl (jx.build 158 [0,2,6,7] rfl rfl rfl rfl rfl rfl rfl rfl) ?_;refine az ?_;refine AR.fI (i:=6) rfl aF rfl ?_;intro g_ eV hG;refine HG ?_;refine Q3 ?_;refine AR.lW [7] aF aF aF aF ?_;intro g_ eV;show a_ .held _ _ _ [_] _ _;refine a_.sV rfl rfl rfl ?_;refine Q3 ?_;intro k_ jA;refine Q0 ?_;refine JF ?_;refine AW.ret ?_;refine BU rfl rfl ?_;refine Q0 ?_;refine a_.sV rfl rfl rfl ?_;refine zd ?_;refine pN ?_;refine a_.kX rfl rfl rfl ?_;refine Ec ?_;(with_reducible apply a_.pb);(iterate 5 exact rfl);exact ah;(iterate 3 exact rfl);(with_reducible assumption);refine Q0 ?_;refine zd ?_;refine zo ?_;refine AW.ie [0,1,3,4] [8] rfl (by assumption) aF aF rfl ?_;show a_ .held _ _ _ [_,_,_,_] _ _;refine BI ?_;refine y1 ?_;refine Q3 ?_;intro k_ jA;refine Q0 ?_;apply AR.cut [4,3,1,0,2,5,6,7];intro lx;(refine AR.iI (i:=2) (j:=7) rfl aF rfl rfl ?_ ?_<;>intro g_ eV hG);refine zP (hca) ?_;refine Q3 ?_;refine AR.free 5 aF rfl rfl rfl (jx.build 30 [0,1] rfl rfl rfl rfl rfl rfl rfl rfl) ?_;refine az ?_;refine AR.free 6 aF rfl rfl rfl (jx.build 61 [0] rfl rfl rfl rfl rfl rfl rfl rfl) ?_;refine az ?_;refine AR.fI (i:=7) rfl aF rfl ?_;intro g_ eV hG;refine Ec ?_;refine Q3 ?_;refine az ?_;refine Hp ?_;refine AR.gc [8,7,6,3,2,1,0] rfl ?_;refine Xf ?_;exact AR.perm aF lx;refine Ec ?_;refine Q3 ?_;refine AR.fI (i:=2) rfl aF rfl ?_;intro g_ eV hG;refine zP (hca) ?_;refine Q3 ?_;refine AR.free 5 aF rfl rfl rfl (jx.build 30 [0,1] rfl rfl rfl rfl rfl rfl rfl rfl) ?_;refine az ?_;refine AR.free 6 aF rfl rfl rfl (jx.build 61 [0] rfl rfl rfl rfl rfl rfl rfl rfl) ?_;refine az ?_;refine az ?_;refine AR.meet lx aF (fun g_=>e_ rfl ?_ ?_ rfl);(iterate 23 refine aA ?_);exact trivial;refine OU ?_;refine Q8 ?_;refine⟨.box _ rfl ?_,?_⟩;(iterate 8 refine aA ?_);exact trivial;refine OU ?_;exact OG;refine Lk ?_;intro g_ eV fz;refine zB ?_;refine Q0 ?_;refine sZ ?_;refine sU ?_;refine a_.j_ rfl rfl rfl ?_;refine zX (Br) ?_;refine qi ?_;refine Q4 ?_;refine AW.UM 0 ?_)
 refine Stop.go ?_
 refine az ?_
 refine AW.Wr (δc:={n:=75,env:=[(2,.pv (oW bs)),(5,.ptr 1 0),(8,.ptr 3 0),(9,.ptr 6 0),(10,.ptr 7 0),(11,.ptr 8 0)],fY:=[(1,some (.box [.pv (ints at'),eU (st:Int)])),(2,some (.box [.pv (lS vals)])),(3,some (.box [.pv (.lit (.slice none 0 0)),eU 0,.pv (.lit (.slice none 0 0)),eU 0])),(6,some (.box [.pv (ints at'),eU (st:Int),.pv (.slice 2 (so.map mT)),.pv (.slice 3 (fs.map qj)),vO pr,vO fa,.pv (oW bs),.pv (V4 fr)])),(7,some (.box [.jd (.func 53) [] [.ptr 2 0]])),(8,some (.box [.pv (ints at'),eU (st:Int),.pv (.lit (.slice none 0 0)),eU (lF vals st (jO st))]))],nx:=9}) ?_ ?_
 ·(refine AW.block ?_)
  (apply AW.fO [11,10,9,8,5,2] [6,8,7,3,2,1] (fun v:Nat=>([(12,eU v)]:List (Nat×AV))) (fun v:Nat=>([]:List (Nat×Option Ob))) (fun v:Nat=>v≤jO st∧lF vals st v=lF vals st (jO st)) (fun v:Nat=>v) (jO st);(conv=>lhs;simp only[Nf.jI,Nf.all,c6,reduceAdd,reduceSub]);(all_goals skip))
  ·exact⟨aM _,rfl⟩
  ·exact e_ rfl (by(refine aA ?_;(iterate 6 refine aA ?_);exact trivial)) (by(refine⟨.box _ rfl ?_,?_⟩;(iterate 8 refine aA ?_);exact trivial;refine⟨.box _ rfl ?_,?_⟩;(iterate 4 refine aA ?_);exact trivial;refine⟨.box _ rfl ?_,?_⟩;refine aA ?_;exact trivial;refine⟨.box _ rfl ?_,?_⟩;(iterate 4 refine aA ?_);exact trivial;refine⟨.box _ rfl ?_,?_⟩;refine aA ?_;exact trivial;refine⟨.box _ rfl ?_,?_⟩;(iterate 2 refine aA ?_);(iterate 2 exact trivial))) rfl
  rintro v ⟨WX,uL⟩
  cases v with
  |zero=>
   (refine Fb ?_;refine zd ?_;refine Ot ?_;refine pQ ?_)
   show lD _ _ _
   exact e_ rfl (by(refine⟨.fb (by first|rfl|(rw[← uL];rfl)),?_⟩;(iterate 5 refine aA ?_);exact trivial)) (by(refine⟨.box _ rfl ?_,?_⟩;refine⟨.fb (by first|rfl|(rw[← uL];rfl)),?_⟩;refine⟨.fy (by first|rfl|(rw[← uL];rfl)),?_⟩;exact trivial;refine⟨.box _ rfl ?_,?_⟩;refine⟨.fb (by first|rfl|(rw[← uL];rfl)),?_⟩;exact trivial;refine⟨.box _ rfl ?_,?_⟩;refine⟨.fy (by first|rfl|(rw[← uL];rfl)),?_⟩;refine⟨.fy (by first|rfl|(rw[← uL];rfl)),?_⟩;refine⟨.fy (by first|rfl|(rw[← uL];rfl)),?_⟩;refine⟨.fy (by first|rfl|(rw[← uL];rfl)),?_⟩;exact trivial;refine⟨.box _ rfl ?_,?_⟩;refine⟨.fb (by first|rfl|(rw[← uL];rfl)),?_⟩;refine⟨.fy (by first|rfl|(rw[← uL];rfl)),?_⟩;refine⟨.fb (by first|rfl|(rw[← uL];rfl)),?_⟩;refine⟨.fb (by first|rfl|(rw[← uL];rfl)),?_⟩;refine⟨.fy (by first|rfl|(rw[← uL];rfl)),?_⟩;refine⟨.fy (by first|rfl|(rw[← uL];rfl)),?_⟩;refine⟨.fb (by first|rfl|(rw[← uL];rfl)),?_⟩;refine⟨.fb (by first|rfl|(rw[← uL];rfl)),?_⟩;exact trivial;refine⟨.box _ rfl ?_,?_⟩;refine aA ?_;exact trivial;refine⟨.box _ rfl ?_,?_⟩;refine⟨.fb (by first|rfl|(rw[← uL];rfl)),?_⟩;refine⟨.fy (by first|rfl|(rw[← uL];rfl)),?_⟩;refine⟨.fy (by first|rfl|(rw[← uL];rfl)),?_⟩;refine⟨.fy (by first|rfl|(rw[← uL];rfl)),?_⟩;(iterate 2 exact trivial))) rfl
  |succ v=>
   have GA:=Qa vals ((v+1:Nat):Int) aG hv
   cases hb:jF vals ((v+1:Nat):Int) with
   |true=>
    rw[hb] at GA
    have pB:lF vals st (jO st)=(st:Int) - ((v+1:Nat):Int):=by rw[← uL,lF,if_pos hb]
    (refine Fb ?_;refine tU ?_;refine pN ?_;refine tM ?_;refine zX (GA) ?_;refine qi ?_;refine zz ?_;refine zq ?_;refine y1 ?_;refine y6 ?_;refine a_.b_ 61 2 3 rfl rfl rfl rfl ?_;(with_reducible apply a_.pb);(iterate 5 exact rfl);exact ah;(iterate 3 exact rfl);(with_reducible assumption);refine Q0 ?_;refine zd ?_;refine AW.exit ?_;refine w_ rfl ?_;(iterate 2 refine pF ?_);refine mj ?_;refine pQ ?_)
    show lD _ _ _
    exact e_ rfl (by(refine⟨.fb (by first|rfl|(rw[pB])),?_⟩;(iterate 5 refine aA ?_);exact trivial)) (by(refine⟨.box _ rfl ?_,?_⟩;refine⟨.fb (by first|rfl|(rw[pB])),?_⟩;refine⟨.fy (by first|rfl|(rw[pB])),?_⟩;exact trivial;refine⟨.box _ rfl ?_,?_⟩;refine⟨.fb (by first|rfl|(rw[pB])),?_⟩;exact trivial;refine⟨.box _ rfl ?_,?_⟩;refine⟨.fy (by first|rfl|(rw[pB])),?_⟩;refine⟨.fy (by first|rfl|(rw[pB])),?_⟩;refine⟨.fy (by first|rfl|(rw[pB])),?_⟩;refine⟨.fy (by first|rfl|(rw[pB])),?_⟩;exact trivial;refine⟨.box _ rfl ?_,?_⟩;refine⟨.fb (by first|rfl|(rw[pB])),?_⟩;refine⟨.fy (by first|rfl|(rw[pB])),?_⟩;refine⟨.fb (by first|rfl|(rw[pB])),?_⟩;refine⟨.fb (by first|rfl|(rw[pB])),?_⟩;refine⟨.fy (by first|rfl|(rw[pB])),?_⟩;refine⟨.fy (by first|rfl|(rw[pB])),?_⟩;refine⟨.fb (by first|rfl|(rw[pB])),?_⟩;refine⟨.fb (by first|rfl|(rw[pB])),?_⟩;exact trivial;refine⟨.box _ rfl ?_,?_⟩;refine aA ?_;exact trivial;refine⟨.box _ rfl ?_,?_⟩;refine⟨.fb (by first|rfl|(rw[pB])),?_⟩;refine⟨.fy (by first|rfl|(rw[pB])),?_⟩;refine⟨.fy (by first|rfl|(rw[pB])),?_⟩;refine⟨.fy (by first|rfl|(rw[pB])),?_⟩;(iterate 2 exact trivial))) rfl
   |false=>
    rw[hb] at GA
    have pB:lF vals st v=lF vals st (jO st):=by rw[← uL,lF,if_neg (by rw[hb];decide)]
    (refine Fb ?_;refine tU ?_;refine pN ?_;refine tM ?_;refine zX (GA) ?_;refine qi ?_;refine mC ?_;refine vP ?_;refine y6 ?_;refine Q4 ?_)
    exact⟨v,⟨by omega,pB⟩,by omega,e_ rfl (by(refine⟨.fy (by first|rfl|(congr 3;omega)),?_⟩;(iterate 5 refine aA ?_);refine⟨.fb (by first|rfl|(congr 3;omega)),?_⟩;exact trivial)) (by(refine⟨.box _ rfl ?_,?_⟩;refine⟨.fb (by first|rfl|(congr 3;omega)),?_⟩;refine⟨.fy (by first|rfl|(congr 3;omega)),?_⟩;refine⟨.fb (by first|rfl|(congr 3;omega)),?_⟩;refine⟨.fb (by first|rfl|(congr 3;omega)),?_⟩;refine⟨.fy (by first|rfl|(congr 3;omega)),?_⟩;refine⟨.fy (by first|rfl|(congr 3;omega)),?_⟩;refine⟨.fb (by first|rfl|(congr 3;omega)),?_⟩;refine⟨.fb (by first|rfl|(congr 3;omega)),?_⟩;exact trivial;refine⟨.box _ rfl ?_,?_⟩;refine⟨.fb (by first|rfl|(congr 3;omega)),?_⟩;refine⟨.fy (by first|rfl|(congr 3;omega)),?_⟩;refine⟨.fy (by first|rfl|(congr 3;omega)),?_⟩;refine⟨.fy (by first|rfl|(congr 3;omega)),?_⟩;exact trivial;refine⟨.box _ rfl ?_,?_⟩;refine aA ?_;exact trivial;refine⟨.box _ rfl ?_,?_⟩;refine⟨.fy (by first|rfl|(congr 3;omega)),?_⟩;refine⟨.fy (by first|rfl|(congr 3;omega)),?_⟩;refine⟨.fy (by first|rfl|(congr 3;omega)),?_⟩;refine⟨.fy (by first|rfl|(congr 3;omega)),?_⟩;exact trivial;refine⟨.box _ rfl ?_,?_⟩;refine⟨.fb (by first|rfl|(congr 3;omega)),?_⟩;exact trivial;refine⟨.box _ rfl ?_,?_⟩;refine⟨.fb (by first|rfl|(congr 3;omega)),?_⟩;refine⟨.fy (by first|rfl|(congr 3;omega)),?_⟩;(iterate 2 exact trivial))) rfl⟩
 refine AW.NT 3 ?_
 refine AW.Ou 105 ?_
 refine az ?_
 generalize Ql:lF vals st (jO st)=lp
 (refine sU ?_;refine y1 ?_;refine zm ?_;refine rW ?_)
 (refine Q0 ?_;apply AW.fO [43,2,8,9,10,11] [3,6,7,2] (fun q:Nat×(Nat→Value)×(Nat→Value)=>([(44,eU q.1)]:List (Nat×AV))) (fun q:Nat×(Nat→Value)×(Nat→Value)=>([(8,some (.box [.pv (ints at'),eU (st:Int),.own 11 113 1 (jD q.1 q.2.2),eU lp])),(9,some (.fm ⟨3,1⟩ (pA q.2.1 (lY bs q.1 0)))),(10,some (.fm ⟨105,2⟩ (rT q.2.2 (ki (D1 q.1 bs.length) (yC bs) q.2.1)))),(11,some .row)]:List (Nat×Option Ob))) (fun q:Nat×(Nat→Value)×(Nat→Value)=>q.1≤st∧(∀key,¬Jw bs.length q.1 0 key→q.2.1 key=.slice none 0 0)∧∀s,q.1≤s→q.2.2 s=.slice none 0 0) (fun q:Nat×(Nat→Value)×(Nat→Value)=>st - q.1) (((0,(fun _=> .slice none 0 0),fun _=> .slice none 0 0):Nat×(Nat→Value)×(Nat→Value)));(conv=>lhs;simp only[Nf.jI,Nf.all,c6,reduceAdd,reduceSub]);(all_goals skip))
 ·exact⟨bg _,fun _ _=>rfl,fun _ _=>rfl⟩
 ·simp only[H4]
  exact e_ rfl (by(refine⟨.fy (by first|rfl|(rw[gJ])|(rw[gK])),?_⟩;refine⟨.fy (by first|rfl|(rw[gJ])|(rw[gK])),?_⟩;refine⟨.fb (by first|rfl|(rw[gJ])|(rw[gK])),?_⟩;(iterate 4 refine aA ?_);exact trivial)) (by(refine⟨.box _ rfl ?_,?_⟩;refine⟨.fb (by first|rfl|(rw[gJ])|(rw[gK])),?_⟩;refine⟨.fy (by first|rfl|(rw[gJ])|(rw[gK])),?_⟩;refine⟨.lU _ _ _ rfl rfl,?_⟩;refine⟨.fy (by first|rfl|(rw[gJ])|(rw[gK])),?_⟩;exact trivial;refine⟨.fm rfl (by first|rfl|(rw[gJ])|(rw[gK])),?_⟩;refine⟨.fm rfl (by first|rfl|(rw[gJ])|(rw[gK])),?_⟩;refine⟨.jv rfl,?_⟩;refine⟨.box _ rfl ?_,?_⟩;refine⟨.fy (by first|rfl|(rw[gJ])|(rw[gK])),?_⟩;refine⟨.fy (by first|rfl|(rw[gJ])|(rw[gK])),?_⟩;refine⟨.fy (by first|rfl|(rw[gJ])|(rw[gK])),?_⟩;refine⟨.fy (by first|rfl|(rw[gJ])|(rw[gK])),?_⟩;exact trivial;refine⟨.box _ rfl ?_,?_⟩;refine⟨.fb (by first|rfl|(rw[gJ])|(rw[gK])),?_⟩;refine⟨.fy (by first|rfl|(rw[gJ])|(rw[gK])),?_⟩;refine⟨.fb (by first|rfl|(rw[gJ])|(rw[gK])),?_⟩;refine⟨.fb (by first|rfl|(rw[gJ])|(rw[gK])),?_⟩;refine⟨.fy (by first|rfl|(rw[gJ])|(rw[gK])),?_⟩;refine⟨.fy (by first|rfl|(rw[gJ])|(rw[gK])),?_⟩;refine⟨.fb (by first|rfl|(rw[gJ])|(rw[gK])),?_⟩;refine⟨.fb (by first|rfl|(rw[gJ])|(rw[gK])),?_⟩;exact trivial;refine⟨.box _ rfl ?_,?_⟩;refine aA ?_;exact trivial;refine⟨.box _ rfl ?_,?_⟩;refine⟨.fb (by first|rfl|(rw[gJ])|(rw[gK])),?_⟩;(iterate 2 exact trivial))) rfl
 rintro⟨k,us,hs⟩ ⟨hk,Jt,UO⟩
 simp only at hk Jt UO ⊢
 by_cases ft:k<st
 ·(refine EJ ?_;refine Q4 ?_;refine sU ?_;refine Q0 ?_;refine zm ?_;refine uj ?_)
  (refine Q0 ?_;apply AW.fO [47,46,44,43,2,8,9,10,11] [8,10,11,3,6,7,2] (fun r:Nat×(Nat→Value)=>([(48,eU r.1),(13,.own 12 105 2 ((Kk (yC bs) r.2 k r.1).map fun u:Int×Value=>[.lit (vI u.1),.lit u.2]))]:List (Nat×AV))) (fun r:Nat×(Nat→Value)=>([(9,some (.fm ⟨3,1⟩ (pA r.2 (lY bs k r.1)))),(12,some .row)]:List (Nat×Option Ob))) (fun r:Nat×(Nat→Value)=>r.1≤bs.length∧(∀key,¬Jw bs.length k r.1 key→r.2 key=.slice none 0 0)∧∀key,key / 8<k→r.2 key=us key) (fun r:Nat×(Nat→Value)=>bs.length - r.1) (((0,us):Nat×(Nat→Value)));(conv=>lhs;simp only[Nf.jI,Nf.all,c6,reduceAdd,reduceSub]);(all_goals skip))
  ·exact⟨bg _,Jt,fun _ _=>rfl⟩
  ·exact e_ rfl (by(refine aB ?_;refine⟨.lU _ _ _ rfl rfl,?_⟩;refine aB ?_;refine aD ?_;(iterate 2 refine aB ?_);refine aD ?_;(iterate 4 refine aA ?_);exact trivial)) (by(refine aE ?_;refine⟨.jv rfl,?_⟩;refine⟨.box _ rfl ?_,?_⟩;refine aD ?_;refine aB ?_;refine⟨.fR (by rfl) rfl,?_⟩;refine aB ?_;exact trivial;refine aE ?_;refine aC ?_;refine⟨.box _ rfl ?_,?_⟩;(iterate 4 refine aB ?_);exact trivial;refine⟨.box _ rfl ?_,?_⟩;refine aD ?_;refine aB ?_;(iterate 2 refine aD ?_);(iterate 2 refine aB ?_);(iterate 2 refine aD ?_);exact trivial;refine⟨.box _ rfl ?_,?_⟩;refine aA ?_;exact trivial;refine⟨.box _ rfl ?_,?_⟩;refine aD ?_;(iterate 2 exact trivial))) rfl
  rintro⟨j,us'⟩ ⟨hj,NQ,yB⟩
  simp only at hj NQ yB ⊢
  by_cases gM:j<bs.length
  ·have hBl:=(h.sm _ (cT gM)).1
   have nt:=HY us' (lY bs k j) (8*k+j) bs[j].1.2 aG (NQ _ (NM aG)) (Kd aG)
   rw[← ID gM hb8] at nt
   have hgB:=CQ gM
   have ij:=fun v=>Mk (ar:=yC bs) (us:=us') (k:=k) (j:=j) v
   rw[hgB.1] at ij
   have Fq:(Kk (yC bs) us' k j).length=j:=by simp [Kk]
   have tree_:True:=trivial
   have YB:∀v,j+1≤bs.length∧(∀key,¬Jw bs.length k (j+1) key→iC us' (8*k+j) v key=.slice none 0 0)∧∀key,key / 8<k→iC us' (8*k+j) v key=us key:=fun v=>by
    refine⟨by omega,fun key MA=>?_,fun key MA=>?_⟩
    ·have:=Km MA (by omega)
     rw[tD _ _ this.1];exact NQ key this.2
    ·rw[tD _ _ aG];exact yB key MA
   have BZ:bs.length - (j+1)<bs.length - j:=by omega
   (refine EJ ?_;refine ay ?_;refine Ke ?_;refine zd ?_;refine AW.ie [4,5,6] [7] rfl (by assumption) aF aF rfl ?_;show a_ .held _ _ _ [_,_,_] _ _;refine a_.b_ 115 0 0 rfl rfl rfl rfl ?_;refine zi ?_;refine Q3 ?_;intro k_ jA;refine Q0 ?_;refine AR.free 1 aF rfl rfl rfl (jx.fieldAddr _ _ 0 rfl rfl rfl) ?_;refine az ?_;refine AR.free 2 aF rfl rfl rfl (jx.fieldAddr _ _ 0 rfl rfl rfl) ?_;refine az ?_;(refine AR.RX (i:=0) (j:=3) (m:=7) rfl aF rfl rfl rfl aF ?_ ?_ ?_<;>intro g_ eV fz);refine IW ?_;(refine AR.qM (i:=3) (j:=7) rfl aF rfl rfl aF ?_ ?_<;>intro g_ eV fz);refine zb ?_;refine Ld ?_;intro g_ eV fz;(with_reducible apply a_.ri (hf:=nt));(with_reducible assumption);(iterate 3 exact rfl);exact au;exact al;(intro x_;exact rfl);exact rfl;exact aq;(intro x_;exact aq);(intro x_;exact rfl);exact rfl;(intro x_ Nb);refine qi ?_;refine HB ?_;refine az ?_;refine EC ?_;intro g_ eV fz;refine B_ ?_;refine Ae ?_;intro g_ eV fz;(with_reducible apply a_.fl);exact rfl;exact ai;(iterate 9 exact rfl);exact aa;refine Dr ?_;intro g_ eV fz;refine DI ?_;(all_goals skip);rotate_left;(with_reducible apply a_.ri (hf:=nt));(with_reducible assumption);(iterate 3 exact rfl);exact au;exact al;(intro x_;exact rfl);exact rfl;exact aq;(intro x_;exact aq);(intro x_;exact rfl);exact rfl;(intro x_ Nb);refine qi ?_;refine Q3 ?_;refine AR.iz (i:=3) rfl aF rfl aF ?_;intro g_ eV fz;refine zb ?_;refine HB ?_;refine az ?_;refine EC ?_;intro g_ eV fz;refine B_ ?_;refine Ae ?_;intro g_ eV fz;(with_reducible apply a_.fl);exact rfl;exact ai;(iterate 9 exact rfl);exact aa;refine Dr ?_;intro g_ eV fz;refine DI ?_;(all_goals skip);rotate_left;refine zb ?_;refine Q3 ?_;(refine AR.qM (i:=0) (j:=7) rfl aF rfl rfl aF ?_ ?_<;>intro g_ eV fz);refine a_.gk rfl rfl rfl ?_;refine Ld ?_;intro g_ eV fz;(with_reducible apply a_.ri (hf:=nt));(with_reducible assumption);(iterate 3 exact rfl);exact au;exact al;(intro x_;exact rfl);exact rfl;exact aq;(intro x_;exact aq);(intro x_;exact rfl);exact rfl;(intro x_ Nb);refine qi ?_;refine HB ?_;refine az ?_;refine EC ?_;intro g_ eV fz;refine B_ ?_;refine Ae ?_;intro g_ eV fz;(with_reducible apply a_.fl);exact rfl;exact ai;(iterate 9 exact rfl);exact aa;refine Dr ?_;intro g_ eV fz;refine DI ?_;(all_goals skip);rotate_left;(with_reducible apply a_.ri (hf:=nt));(with_reducible assumption);(iterate 3 exact rfl);exact au;exact al;(intro x_;exact rfl);exact rfl;exact aq;(intro x_;exact aq);(intro x_;exact rfl);exact rfl;(intro x_ Nb);refine qi ?_;refine HB ?_;refine az ?_;(refine AR.ua (i:=0) (j:=9) rfl aF rfl rfl aF ?_ ?_<;>intro g_ eV fz);refine IW ?_;refine EC ?_;intro g_ eV fz;refine B_ ?_;refine Ae ?_;intro g_ eV fz;(with_reducible apply a_.fl);exact rfl;exact ai;(iterate 9 exact rfl);exact aa;refine Dr ?_;intro g_ eV fz;refine DI ?_;(all_goals skip);rotate_left;refine B_ ?_;refine AR.iz (i:=0) rfl aF rfl aF ?_;intro g_ eV fz;refine IW ?_;refine Ae ?_;intro g_ eV fz;(with_reducible apply a_.fl);exact rfl;exact ai;(iterate 9 exact rfl);exact aa;refine Dr ?_;intro g_ eV fz;refine DI ?_;(all_goals skip);rotate_left;(with_reducible apply a_.ri (hf:=nt));(with_reducible assumption);(iterate 3 exact rfl);exact au;exact al;(intro x_;exact rfl);exact rfl;exact aq;(intro x_;exact aq);(intro x_;exact rfl);exact rfl;(intro x_ Nb);refine qi ?_;refine Q3 ?_;(refine AR.ua (i:=0) (j:=3) rfl aF rfl rfl aF ?_ ?_<;>intro g_ eV fz);refine IW ?_;refine AR.iz (i:=3) rfl aF rfl aF ?_;intro g_ eV fz;refine zb ?_;refine HB ?_;refine az ?_;refine EC ?_;intro g_ eV fz;refine B_ ?_;refine Ae ?_;intro g_ eV fz;(with_reducible apply a_.fl);exact rfl;exact ai;(iterate 9 exact rfl);exact aa;refine Dr ?_;intro g_ eV fz;refine DI ?_;(all_goals skip);rotate_left;refine zb ?_;refine HB ?_;refine az ?_;(refine AR.ua (i:=0) (j:=9) rfl aF rfl rfl aF ?_ ?_<;>intro g_ eV fz);refine IW ?_;refine EC ?_;intro g_ eV fz;refine B_ ?_;refine Ae ?_;intro g_ eV fz;(with_reducible apply a_.fl);exact rfl;exact ai;(iterate 9 exact rfl);exact aa;refine Dr ?_;intro g_ eV fz;refine DI ?_;(all_goals skip);rotate_left;refine B_ ?_;refine AR.iz (i:=0) rfl aF rfl aF ?_;intro g_ eV fz;refine IW ?_;refine Ae ?_;intro g_ eV fz;(with_reducible apply a_.fl);exact rfl;exact ai;(iterate 9 exact rfl);exact aa;refine Dr ?_;intro g_ eV fz;refine DI ?_;(all_goals skip);rotate_left)
   all_goals exact⟨(j+1,iC us' (8*k+j) (.slice x_.a x_.l x_.c)),YB _,BZ,e_ rfl (by(refine MW ?_;refine⟨.fR (by first|rfl|exact ij _) rfl,?_⟩;refine MW ?_;refine Kh ?_;(iterate 2 refine⟨.fy (by first|rfl|exact ij _),?_⟩);refine Kh ?_;(iterate 4 refine aA ?_);exact trivial)) (by(refine⟨.fm rfl (by first|rfl|exact ij _),?_⟩;refine aC ?_;refine⟨.box _ rfl ?_,?_⟩;refine Kh ?_;refine MW ?_;refine⟨.fR (by first|rfl|exact ij _) rfl,?_⟩;refine MW ?_;exact trivial;refine⟨.fm rfl (by first|rfl|exact ij _),?_⟩;refine aC ?_;refine⟨.box _ rfl ?_,?_⟩;(iterate 4 refine⟨.fy (by first|rfl|exact ij _),?_⟩);exact trivial;refine⟨.box _ rfl ?_,?_⟩;refine Kh ?_;refine MW ?_;(iterate 2 refine⟨.fb (by first|rfl|exact ij _),?_⟩);(iterate 2 refine⟨.fy (by first|rfl|exact ij _),?_⟩);(iterate 2 refine⟨.fb (by first|rfl|exact ij _),?_⟩);exact trivial;refine Q8 ?_;refine⟨.box _ rfl ?_,?_⟩;refine Kh ?_;(iterate 2 exact trivial))) rfl⟩
  ·obtain rfl:j=bs.length:=by omega
   (refine BW ?_;refine Q7 ?_;refine gr ?_;refine AW.UG 17 ?_)
   refine Stop.go ?_
   refine AW.EZ 10 12 k 13 (us:=Kk (yC bs) us' k bs.length) rfl rfl rfl rfl (by simp [Kk];omega) (UO k (aM _)) fun v_=>?_
   refine az ?_
   rw[En yB hb8,Iu]
   have YB:k+1≤st∧(∀key,¬Jw bs.length (k+1) 0 key→us' key=.slice none 0 0)∧∀s,k+1≤s→iC hs k (.slice v_.a v_.l v_.c) s=.slice none 0 0:=by
    refine⟨by omega,fun key MA=>NQ key (Ml MA),fun s Is=>?_⟩
    rw[tD _ _ aG];exact UO s (by omega)
   have BZ:st - (k+1)<st - k:=by omega
   have hhl:=Go.Ab.tI k hs
   have sA:=HV k hs (.slice v_.a v_.l v_.c)
   (refine AW.region ?_;refine a_.b_ 61 1 2 rfl rfl rfl rfl ?_;refine tM ?_;(with_reducible apply a_.Tv);(iterate 5 exact rfl);exact ah;exact rfl;exact rfl;refine Q0 ?_;(with_reducible apply a_.fl);exact rfl;exact ai;(iterate 9 exact rfl);exact aa;refine a_.b_ 61 1 2 rfl rfl rfl rfl ?_;(with_reducible apply a_.pb);(iterate 5 exact rfl);exact ah;(iterate 3 exact rfl);(with_reducible assumption);refine Q0 ?_;refine a_.nil ?_;refine vP ?_;refine wb ?_)
   exact⟨(k+1,us',iC hs k (.slice v_.a v_.l v_.c)),YB,BZ,e_ rfl (by(refine⟨.fy (by first|rfl|exact sA),?_⟩;refine⟨.fy (by first|rfl|exact sA),?_⟩;refine⟨.fb (by first|rfl|exact sA),?_⟩;(iterate 4 refine aA ?_);exact trivial)) (by(refine⟨.box _ rfl ?_,?_⟩;refine⟨.fb (by first|rfl|exact sA),?_⟩;refine⟨.fy (by first|rfl|exact sA),?_⟩;refine⟨.fR (by first|rfl|exact sA) rfl,?_⟩;refine⟨.fy (by first|rfl|exact sA),?_⟩;exact trivial;(iterate 2 refine⟨.fm rfl (by first|rfl|exact sA),?_⟩);refine aC ?_;refine⟨.box _ rfl ?_,?_⟩;(iterate 4 refine⟨.fy (by first|rfl|exact sA),?_⟩);exact trivial;refine⟨.box _ rfl ?_,?_⟩;refine⟨.fb (by first|rfl|exact sA),?_⟩;refine⟨.fy (by first|rfl|exact sA),?_⟩;(iterate 2 refine⟨.fb (by first|rfl|exact sA),?_⟩);(iterate 2 refine⟨.fy (by first|rfl|exact sA),?_⟩);(iterate 2 refine⟨.fb (by first|rfl|exact sA),?_⟩);exact trivial;refine⟨.box _ rfl ?_,?_⟩;refine aA ?_;exact trivial;refine⟨.box _ rfl ?_,?_⟩;refine⟨.fb (by first|rfl|exact sA),?_⟩;(iterate 2 exact trivial))) rfl⟩
 ·obtain rfl:st=k:=by omega
  have AO:=N2 so fs pr fa bs fr vals at' st lp (D1 st bs.length) (yC bs) hs us (lY bs st 0) (pE fs) ⟨I_,Ns⟩ hv B0 (fun s=>by unfold D1;split<;>omega) Eo S_
  simp only[W7,PR] at AO
  (refine BW ?_;refine Q7 ?_;refine gr ?_;refine pN ?_;refine a_.j_ rfl rfl rfl ?_;refine a_.sD rfl rfl rfl rfl rfl ?_;(with_reducible apply a_.ri (hf:=AO));(with_reducible assumption);(iterate 3 exact rfl);exact au;exact al;(intro x_;exact rfl);exact rfl;exact aq;(intro x_;exact aq);(intro x_;exact rfl);exact rfl;(intro x_ Nb);refine qi ?_;refine zd ?_;refine AW.VK 20 ?_)
  refine Stop.go ?_
  (try (conv=>rhs;simp only[Nf.af,Nf.ZU,Nf.Xi,Nf.XO,Nf.ZQ,Nf.xor,Nf.Xj,Nf.ZJ,Nf.Z7,Nf.ZG,Nf.Y8,Nf.Xh,Nf.ZP,Nf.YY,Nf.EX,Nf.KC,Nf.E5,Nf.BC,Nf.Bd,Nf.Ep,Nf.E1,Nf.A_,Nf.D9,Nf.FR,Nf.FI,Nf.UW,Nf.XI,Nf.YJ,Nf.Zv,Nf.rwt,Nf.xoP,Nf.rwP,Nf.cn,Nf.nn,DX,w7,c6,cond_true,cond_false]));refine az ?_
  refine AW.Yz 11 rfl ?_
  refine az ?_
  refine AW.xG 8 9 10 2 (D1 st bs.length) (yC bs) rfl rfl rfl (by decide) rfl (fun s hs=>O6 _ _ _ _) ?_
  refine az ?_
  rw[H0]
  (refine zq ?_;refine zL ?_;refine Q0 ?_;refine zB ?_;refine Q0 ?_;refine qu ?_)
  (apply c_;(exact fZ.one (.cell rfl rfl rfl rfl));(refine Le.ia ?_;refine gX.cons ?_ ?_;(with_reducible exact Le.pv _);refine gX.cons ?_ ?_;(with_reducible exact Le.pv _);refine gX.cons ?_ ?_;(with_reducible exact Le.pv _);refine gX.cons ?_ ?_;(with_reducible exact Le.pv _);exact gX.nil))
end Go.Ab
/- Chapter 07:states and models held against each other;the next state,the state at a time. -/
namespace Go.Ab
open Go Go.Proofs
set_option maxRecDepth 20000
set_option maxHeartbeats 2000000
attribute [local irreducible] AW a_ fT ff AR fh e6 fp
theorem mod_eq (a b:uf):decide (a=b)=(decide (a.atoms=b.atoms) && decide (a.steps=b.steps) && decide (a.loop=b.loop) && decide (a.states=b.states)):=by
 obtain⟨a1,a2,a3,a4⟩:=a
 obtain⟨b1,b2,b3,b4⟩:=b
 rw[Bool.eq_iff_iff]
 simp only[Bool.and_eq_true,decide_eq_true_eq,uf.mk.injEq]
 constructor
 ·rintro⟨h1,h2,h3,h4⟩;exact⟨⟨⟨h1,h2⟩,h4⟩,h3⟩
 ·rintro⟨⟨⟨h1,h2⟩,h4⟩,h3⟩;exact⟨h1,h2,h3,h4⟩
theorem Nl (a b:List jc):Fn Tryz.prog 69 [.pv (Bc a),.pv (Bc b)] (fe (decide (a=b))):=by
 refine Fn.enter (n:=8) Tryz.func69 rfl rfl rfl rfl rfl (by decide) fun g fu fw=>?_;(try refine nz ?_)
 refine AW.ub 0 rfl fun hlen=>?_
 by_cases ti:a.length=b.length
 ·(refine nQ ?_;(iterate 2 refine zm ?_);(with_reducible apply a_.inline (hf:=Tryz.func109));(with_reducible assumption);(iterate 10 exact rfl);intro g_ fu fw;refine nz ?_;refine C6 ?_;refine tH ?_;refine zm ?_;refine uj ?_)
  refine AW.loop (fun(k:Nat)=>{n:=32,env:=[(1,.pv (Bc b)),(2,.jd (.func 66) [] []),(15,.pv (Bc a)),(16,eU a.length),(17,eU k)],fY:=[],nx:=0}) (fun k=>k≤a.length∧a.take k=b.take k) (fun k=>a.length - k) 0 ?_ ?_ ?_
  ·simp
  ·exact e_ rfl (by(refine aA ?_;(iterate 4 refine aA ?_);exact trivial)) (by(exact trivial)) rfl
  rintro k ⟨hk,lz⟩
  by_cases ft:k<a.length
  ·have gM:k<b.length:=by omega
   have he:=vL a[k] b[k]
   by_cases heq:a[k]=b[k]
   ·rw[decide_eq_true heq] at he
    (refine nR ?_;refine ay ?_;refine Il ?_;refine ay ?_;refine Jp ?_;refine zq ?_;refine a_.iX rfl rfl rfl ?_;(iterate 2 refine j4 ?_);refine a_.DU (hf:=he) rfl rfl (.cons rfl (.ia (.cons (.pv _) (.cons (.pv _) .nil))) (.cons rfl (.ia (.cons (.pv _) (.cons (.pv _) .nil))) .nil)) rfl rfl (fun h_=>by cases h_) ?_;refine v7 ?_)
    exact⟨k+1,⟨by omega,wP lz ft gM heq⟩,by omega,e_ rfl (by(refine aA ?_;(iterate 4 refine aA ?_);exact trivial)) (by(exact trivial)) rfl⟩
   ·rw[decide_eq_false heq] at he
    have gz:¬a=b:=by rintro rfl;exact heq rfl
    (refine nR ?_;refine ay ?_;refine Il ?_;refine ay ?_;refine Jp ?_;refine zq ?_;refine a_.iX rfl rfl rfl ?_;(iterate 2 refine j4 ?_);refine a_.DU (hf:=he) rfl rfl (.cons rfl (.ia (.cons (.pv _) (.cons (.pv _) .nil))) (.cons rfl (.ia (.cons (.pv _) (.cons (.pv _) .nil))) .nil)) rfl rfl (fun h_=>by cases h_) ?_;refine a_.not rfl rfl rfl ?_;refine tn ?_;refine oC ?_;refine jG rfl rfl ?_;refine nz ?_;refine j7 ?_)
    (apply c_;(exact fZ.one (.tmp rfl rfl));(refine Le.fe ?_;(rw[eq_comm,decide_eq_false_iff_not];exact gz)))
  ·have he:a=b:=ru ti lz ft
   (refine og ?_;refine A2 ?_;refine nz ?_;refine j7 ?_)
   (apply c_;(exact fZ.one (.tmp rfl rfl));(refine Le.fe ?_;(rw[eq_comm,decide_eq_true_iff];exact he)))
 ·have gz:¬a=b:=by rintro rfl;exact ti rfl
  (refine nQ ?_;(iterate 2 refine zm ?_);(with_reducible apply a_.inline (hf:=Tryz.func109));(with_reducible assumption);(iterate 10 exact rfl);intro g_ fu fw;refine nz ?_;refine C6 ?_;refine sK ?_;refine jG rfl rfl ?_;refine nz ?_;refine j7 ?_)
  (apply c_;(exact fZ.one (.tmp rfl rfl));(refine Le.fe ?_;(rw[eq_comm,decide_eq_false_iff_not];exact gz)))
theorem I9 (a b:uf):Fn Tryz.prog 23 [GQ a,GQ b] (fe (decide (a=b))):=by
 rw[mod_eq]
 obtain⟨a1,a2,a3,a4⟩:=a
 obtain⟨b1,b2,b3,b4⟩:=b
 simp only
 have hs:=zW a1 b1
 cases h1:decide (a1=b1) with
 |false=>
  rw[h1] at hs
  rw[du,du,du]
  refine Fn.enter (n:=35) Tryz.func23 rfl rfl rfl rfl rfl (by decide) fun g fu fw=>?_;(try refine nz ?_)
  (refine L7 ?_;refine a_.call (hs) (.cons rfl (.pv _) (.cons rfl (.pv _) .nil)) rfl rfl (fun h_=>by cases h_) ?_;refine zm ?_;(iterate 7 refine a_.iP rfl rfl rfl rfl rfl rfl rfl ?_);refine a_.jk rfl rfl rfl rfl rfl rfl ?_;refine zm ?_;refine Rs ?_;refine zm ?_;refine Rs ?_;refine j7 ?_)
  (apply c_;(exact fZ.one (.tmp rfl rfl));(refine Le.fe ?_;(rfl)))
 |true=>
 rw[h1] at hs
 by_cases h2:a2=b2
 ·by_cases h4:a4=b4
  ·rw[decide_eq_true h2,decide_eq_true h4,dt,dt,dt]
   refine Fn.enter (n:=35) Tryz.func23 rfl rfl rfl rfl rfl (by decide) fun g fu fw=>?_;(try refine nz ?_)
   refine AW.Bj 0 2 rfl rfl fun hlen=>?_
   simp only at hlen
   by_cases ti:a3.length=b3.length
   ·(refine L7 ?_;refine a_.call (hs) (.cons rfl (.pv _) (.cons rfl (.pv _) .nil)) rfl rfl (fun h_=>by cases h_) ?_;refine zm ?_;refine Vi ?_;(with_reducible apply a_.inline (hf:=Tryz.func68));(with_reducible assumption);(iterate 10 exact rfl);intro g_ fu fw;refine nz ?_;refine C6 ?_;refine tH ?_;refine zm ?_;refine uj ?_)
    refine AW.loop (fun(k:Nat)=>{n:=32,env:=[(1,.pv (yL b3)),(2,.jd (.func 69) [] []),(15,.pv (yL a3)),(16,eU a3.length),(17,eU k),(1028,fe (decide (a4=b4)))],fY:=[],nx:=0}) (fun k=>k≤a3.length∧a3.take k=b3.take k) (fun k=>a3.length - k) 0 ?_ ?_ ?_
    ·simp
    ·exact e_ rfl (by(refine aA ?_;(iterate 5 refine aA ?_);exact trivial)) (by(exact trivial)) rfl
    rintro k ⟨hk,lz⟩
    by_cases ft:k<a3.length
    ·have gM:k<b3.length:=by omega
     have he:=Nl a3[k] b3[k]
     by_cases heq:a3[k]=b3[k]
     ·rw[decide_eq_true heq] at he
      (refine nR ?_;refine ay ?_;refine MO ?_;refine Q5 ?_;(iterate 2 refine zm ?_);refine ay ?_;refine zr ?_;refine zu ?_;(iterate 2 refine zm ?_);refine a_.DU (hf:=he) rfl rfl (.cons rfl (.pv _) (.cons rfl (.pv _) .nil)) rfl rfl (fun h_=>by cases h_) ?_;refine v7 ?_)
      exact⟨k+1,⟨by omega,wP lz ft gM heq⟩,by omega,e_ rfl (by(refine aA ?_;(iterate 5 refine aA ?_);exact trivial)) (by(exact trivial)) rfl⟩
     ·rw[decide_eq_false heq] at he
      have gz:¬a3=b3:=by rintro rfl;exact heq rfl
      (refine nR ?_;refine ay ?_;refine MO ?_;refine Q5 ?_;(iterate 2 refine zm ?_);refine ay ?_;refine zr ?_;refine zu ?_;(iterate 2 refine zm ?_);refine a_.DU (hf:=he) rfl rfl (.cons rfl (.pv _) (.cons rfl (.pv _) .nil)) rfl rfl (fun h_=>by cases h_) ?_;refine a_.not rfl rfl rfl ?_;refine tn ?_;refine oC ?_;refine jG rfl rfl ?_;refine nz ?_;refine zT ?_;refine j7 ?_)
      (apply c_;(exact fZ.one (.tmp rfl rfl));(refine Le.fe ?_;(rw[eq_comm,decide_eq_false_iff_not];exact gz)))
    ·have he:a3=b3:=ru ti lz ft
     (refine og ?_;refine A2 ?_;refine nz ?_;refine zT ?_;refine j7 ?_)
     (apply c_;(exact fZ.one (.tmp rfl rfl));(refine Le.fe ?_;(rw[eq_comm,decide_eq_true_iff];exact he)))
   ·have gz:¬a3=b3:=by rintro rfl;exact ti rfl
    (refine L7 ?_;refine a_.call (hs) (.cons rfl (.pv _) (.cons rfl (.pv _) .nil)) rfl rfl (fun h_=>by cases h_) ?_;refine zm ?_;refine Vi ?_;(with_reducible apply a_.inline (hf:=Tryz.func68));(with_reducible assumption);(iterate 10 exact rfl);intro g_ fu fw;refine nz ?_;refine C6 ?_;refine sK ?_;refine jG rfl rfl ?_;refine nz ?_;refine zT ?_;refine j7 ?_)
    (apply c_;(exact fZ.one (.tmp rfl rfl));(refine Le.fe ?_;(rw[eq_comm,decide_eq_false_iff_not];exact gz)))
  ·rw[decide_eq_true h2,decide_eq_false h4,ea,du]
   refine Fn.enter (n:=35) Tryz.func23 rfl rfl rfl rfl rfl (by decide) fun g fu fw=>?_;(try refine nz ?_)
   (refine L7 ?_;refine a_.call (hs) (.cons rfl (.pv _) (.cons rfl (.pv _) .nil)) rfl rfl (fun h_=>by cases h_) ?_;refine zm ?_;refine RG ?_;refine zb ?_;refine RG ?_;refine zb ?_;refine Vv ?_;refine zm ?_;refine PJ ?_;refine j7 ?_)
   (apply c_;(exact fZ.one (.tmp rfl rfl));(refine Le.fe ?_;(rfl)))
 ·rw[decide_eq_false h2,ea,du,du]
  refine Fn.enter (n:=35) Tryz.func23 rfl rfl rfl rfl rfl (by decide) fun g fu fw=>?_;(try refine nz ?_)
  (refine L7 ?_;refine a_.call (hs) (.cons rfl (.pv _) (.cons rfl (.pv _) .nil)) rfl rfl (fun h_=>by cases h_) ?_;refine zm ?_;refine RG ?_;refine zb ?_;refine RG ?_;refine zb ?_;refine zl ?_;refine a_.eql rfl rfl rfl rfl rfl ?_;refine qh ?_;refine PJ ?_;refine zm ?_;refine Rs ?_;refine j7 ?_)
  (apply c_;(exact fZ.one (.tmp rfl rfl));(refine Le.fe ?_;(rfl)))
end Go.Ab
/- Chapter 24:Leader,walked. -/
namespace Go.Ab
open Go Go.Proofs
open Nat (reduceAdd reduceSub)
set_option maxRecDepth 20000
set_option maxHeartbeats 4000000
theorem MG {f g:Int→Bool} {o:List Int} {k:Nat} (h:k<o.length):Fc f g (o.drop k)=if f o[k]=g o[k] then Fc f g (o.drop (k+1)) else g o[k]:=by
 rw[dY h];rfl
def tu (vals:List Bool) (perm:List Int) (k:Nat):Bool:=Fc (jF vals) (jF (nU vals perm)) ((ng perm.length).drop k)
theorem Fe (vals:List Bool) (perm:List Int):tu vals perm 0=vG vals perm:=rfl
theorem HM (vals:List Bool) (perm:List Int):tu vals perm perm.length=true:=by
 unfold tu
 rw[dI (by rw[rF];omega)];rfl
theorem ED (vals:List Bool) {perm:List Int} {k:Nat} (hk:k<perm.length) (hi:k<(jy perm).length):tu vals perm k=if jF vals ((k:Int)+1)=jF vals (jy perm)[k] then tu vals perm (k+1) else jF vals (jy perm)[k]:=by
 have hl:k<(ng perm.length).length:=by rw[rF];exact hk
 unfold tu
 rw[MG hl,Qy hl,Ei _ aG]
 have e:=q_ (perm:=perm) (w:=(k:Int)+1) aG (by rw[nj];omega)
 have e2:(jy perm)[((k:Int)+1 - 1).toNat]'(by rw[nj];omega)=(jy perm)[k]:=by
  congr 1
  omega
 rw[← e,e2]
attribute [local irreducible] AW a_ fT ff AR fh e6 fp fA n_ jy tu jF
theorem z_ (vals:List Bool) (v:Int) (h1:1≤v) (h2:v≤1000000):Fn Tryz.prog 35 [eU v,.gy [lS vals]] (fe (jF vals v)):=by
 by_cases h:v≤(vals.length:Int)
 ·rw[E2 h1 h]
  refine Fn.enter (n:=15) Tryz.func35 rfl rfl rfl rfl rfl (by decide) fun g fu fw=>?_;(try refine nz ?_)
  (refine tX ?_;refine zr ?_;refine DF ?_;refine zm ?_;refine yN ?_;refine zm ?_;refine Fk ?_;(focus ((with_reducible apply a_.e8);(iterate 7 exact rfl);omega;rotate_left;(first|omega|exact db|exact(by simp))));refine zt ?_;refine zr ?_;refine zT ?_;refine j7 ?_)
  (apply c_;(exact fZ.one (.tmp rfl rfl));(refine Le.fe ?_;(rfl)))
 ·rw[Bx h1 h]
  refine Fn.enter (n:=15) Tryz.func35 rfl rfl rfl rfl rfl (by decide) fun g fu fw=>?_;(try refine nz ?_)
  (refine tX ?_;refine zr ?_;refine DF ?_;refine zm ?_;refine PJ ?_;refine j7 ?_)
  (apply c_;(exact fZ.one (.tmp rfl rfl));(refine Le.fe ?_;(rfl)))
abbrev lO (vals:List Bool):List (Nat×Option Ob):=[(0,some (.box [.pv (lS vals)])),(1,some (.box [.jd (.func 35) [] [.ptr 0 0]]))]
theorem C1 (vals:List Bool) (perm:List Int) (hp:iL perm) (hl:perm.length≤100000):vW Tryz.prog 37 2 (lO vals) [.pv (ints perm),.ptr 1 0] (lO vals) (fe (!vG vals perm)):=by
 have ZB:=yo perm hp hl
 have zV:=nj perm
 simp only[lO]
 rw[← Fe]
 refine vW.enter (n:=28) Tryz.func37 rfl rfl rfl rfl rfl (by decide) rfl rfl fun g fu fw=>?_;refine LF ?_
 (refine zq ?_;refine lM ?_;refine zP (ZB) ?_;refine uj ?_)
 (refine nz ?_;apply AW.fO [10,9,1,1000] [0,1] (fun k:Nat=>([(11,eU k)]:List (Nat×AV))) (fun k:Nat=>([]:List (Nat×Option Ob))) (fun k:Nat=>k≤perm.length∧tu vals perm 0=tu vals perm k) (fun k:Nat=>perm.length - k) (0);(conv=>lhs;simp only[Nf.jI,Nf.all,c6,reduceAdd,reduceSub]);(all_goals skip))
 ·exact⟨bg _,rfl⟩
 ·exact e_ rfl (by(refine aA ?_;(iterate 4 refine aA ?_);exact trivial)) (by(refine⟨.box _ rfl ?_,?_⟩;refine aA ?_;exact trivial;refine⟨.box _ rfl ?_,?_⟩;refine aA ?_;(iterate 2 exact trivial))) rfl
 rintro k ⟨hk,he⟩
 by_cases ft:k<perm.length
 ·have B7:k<(jy perm).length:=by omega
  have hs:=ED vals ft B7
  have hr:=hp.back (w:=(k:Int)+1) (by omega)
  have e:=q_ (perm:=perm) (w:=(k:Int)+1) aG (by omega)
  have e2:(jy perm)[((k:Int)+1 - 1).toNat]'(by omega)=(jy perm)[k]:=by
   congr 1
   omega
  rw[← e,e2] at hr
  clear e e2
  have v1:=z_ vals ((k:Int)+1) aG (by omega)
  have v2:=z_ vals (jy perm)[k] aG (by omega)
  generalize jF vals ((k:Int)+1)=x at hs v1
  generalize jF vals (jy perm)[k]=y at hs v2
  by_cases U4:x=y
  ·rw[if_pos U4] at hs
   (refine nR ?_;refine ay ?_;refine MO ?_;refine zo ?_;refine AW.ie [0,1,2,4,5] [] rfl (by assumption) aF aF rfl ?_;show a_ .held _ _ _ [_,_,_,_,_] _ _;refine tM ?_;refine zj ?_;refine tM ?_;refine Q3 ?_;intro k_ jA;refine Ck ?_;intro g_ eV hG;refine zC (v1) ?_;refine Q3 ?_;refine AR.fI (i:=6) rfl aF rfl ?_;intro g_ eV hG;refine zC (v2) ?_;refine Q3 ?_;refine AR.lW [7,8] aF aF aF aF ?_;intro g_ eV;show a_ .held _ _ _ [_,_] _ _;(iterate 2 refine za ?_);refine Q3 ?_;intro k_ jA;refine nz ?_;refine JF ?_;refine zq ?_;(iterate 2 refine zm ?_);refine a_.Va rfl rfl rfl rfl rfl rfl ?_;refine zd ?_;(focus ((with_reducible apply AW.G0);exact rfl;exact rfl;all_goals intro qp));refine Q5 ?_;refine zm ?_;refine oC ?_;(all_goals skip);rotate_left;refine AW.skip ?_;refine vT ?_;(all_goals skip);rotate_left)
   ·exact absurd U4 qp
   exact⟨k+1,⟨by omega,he.trans hs⟩,by omega,e_ rfl (by(refine aA ?_;(iterate 4 refine aA ?_);exact trivial)) (by(refine⟨.box _ rfl ?_,?_⟩;refine aA ?_;exact trivial;refine⟨.box _ rfl ?_,?_⟩;refine aA ?_;(iterate 2 exact trivial))) rfl⟩
  ·rw[if_neg U4] at hs
   rw[he,hs]
   have hy:(!y)=x:=by cases x<;>cases y<;>simp_all
   rw[hy]
   (refine nR ?_;refine ay ?_;refine MO ?_;refine zo ?_;refine AW.ie [0,1,2,4,5] [] rfl (by assumption) aF aF rfl ?_;show a_ .held _ _ _ [_,_,_,_,_] _ _;refine tM ?_;refine zj ?_;refine tM ?_;refine Q3 ?_;intro k_ jA;refine Ck ?_;intro g_ eV hG;refine zC (v1) ?_;refine Q3 ?_;refine AR.fI (i:=6) rfl aF rfl ?_;intro g_ eV hG;refine zC (v2) ?_;refine Q3 ?_;refine AR.lW [7,8] aF aF aF aF ?_;intro g_ eV;show a_ .held _ _ _ [_,_] _ _;(iterate 2 refine za ?_);refine Q3 ?_;intro k_ jA;refine nz ?_;refine JF ?_;refine zq ?_;(iterate 2 refine zm ?_);refine a_.Va rfl rfl rfl rfl rfl rfl ?_;refine nD ?_;refine zm ?_;refine oC ?_)
   (apply jf;((exact fZ.one (.tmp rfl rfl)));((refine⟨.Ms (by first|with_reducible rfl|(rfl)),?_⟩;exact xE));((refine⟨.box _ rfl ?_,?_⟩;refine Mh ?_;exact trivial;exact N6));exact rfl)
 ·obtain rfl:k=perm.length:=by omega
  rw[he,HM]
  (refine og ?_;refine j7 ?_)
  (apply jf;((exact fZ.one (.tmp rfl rfl)));((refine⟨.Ms (by first|with_reducible rfl|(rfl)),?_⟩;exact xE));((refine⟨.box _ rfl ?_,?_⟩;refine Mh ?_;exact trivial;exact N6));exact rfl)
end Go.Ab
/- slices' functions that take functions. -/
namespace Go.Ab
open Go Go.Proofs
open Nat (reduceAdd reduceSub)
set_option maxRecDepth 20000
set_option maxHeartbeats 4000000
attribute [local irreducible] AW a_ fT ff AR fh e6 fp fA
end Go.Ab
/- Chapter 24:Leader over several permutations,walked. -/
namespace Go.Ab
open Go Go.Proofs
open Nat (reduceAdd reduceSub)
set_option maxRecDepth 20000
set_option maxHeartbeats 4000000
attribute [local irreducible] AW a_ fT ff AR fh e6 fp fA n_ jy vG jF
theorem uN (vals:List Bool) (perms:List (List Int)) (hp:∀p∈perms,iL p∧p.length≤100000) (hl:perms.length≤100000):Fn Tryz.prog 12 [.pv (lS vals),.pv (yr perms)] (fe (xl vals perms)):=by
 have hg:=fun p h=>C1 vals p (hp p h).1 (hp p h).2
 simp only[lO] at hg
 refine Fn.enter (n:=11) Tryz.func12 rfl rfl rfl rfl rfl (by decide) fun g fu fw=>?_;(try refine nz ?_)
 (refine tc ?_;refine a_.kX rfl rfl rfl ?_;refine pZ ?_;refine qn ?_;refine nd ?_;refine zm ?_;refine a_.kX rfl rfl rfl ?_;(with_reducible apply a_.inline (hf:=Tryz.func36));(with_reducible assumption);(iterate 10 exact rfl);intro g_ fu fw;refine nz ?_;refine tX ?_;refine a_.iX rfl rfl rfl ?_;(with_reducible apply a_.inline (hf:=Tryz.func82));(with_reducible assumption);(iterate 10 exact rfl);intro g_ fu fw;refine nz ?_;refine zq ?_;refine lM ?_;refine uj ?_)
 (refine nz ?_;apply AW.fO [7,0,1,1006,1005,1004,1000,1001,2008,2007,2005,2004,2001] [1,0] (fun k:Nat=>([(8,eU k)]:List (Nat×AV))) (fun k:Nat=>([]:List (Nat×Option Ob))) (fun k:Nat=>k≤perms.length∧xl vals perms=(perms.drop k).all (vG vals)) (fun k:Nat=>perms.length - k) (0);(conv=>lhs;simp only[Nf.jI,Nf.all,c6,reduceAdd,reduceSub]);(all_goals skip))
 ·exact⟨bg _,rfl⟩
 ·exact e_ rfl (by(refine aA ?_;(iterate 13 refine aA ?_);exact trivial)) (by(refine⟨.box _ rfl ?_,?_⟩;refine aA ?_;exact trivial;refine⟨.box _ rfl ?_,?_⟩;refine aA ?_;(iterate 2 exact trivial))) rfl
 rintro k ⟨hk,he⟩
 by_cases ft:k<perms.length
 ·have hx:=hg perms[k] (cT ft)
  rw[dY ft,List.all_cons] at he
  cases hb:vG vals perms[k] with
  |true=>
   rw[hb] at hx he
   rw[dt] at he
   simp only[Bool.not_true] at hx
   (refine nR ?_;refine zu ?_;(iterate 2 refine zm ?_);refine ay ?_;refine zr ?_;refine zX (hx) ?_;refine vn ?_;refine mC ?_;refine vP ?_;refine wb ?_)
   exact⟨k+1,⟨by omega,he⟩,by omega,e_ rfl (by(refine aA ?_;(iterate 13 refine aA ?_);exact trivial)) (by(refine⟨.box _ rfl ?_,?_⟩;refine aA ?_;exact trivial;refine⟨.box _ rfl ?_,?_⟩;refine aA ?_;(iterate 2 exact trivial))) rfl⟩
  |false=>
   rw[hb] at hx he
   rw[du] at he
   rw[he]
   simp only[Bool.not_false] at hx
   (refine nR ?_;refine zu ?_;(iterate 2 refine zm ?_);refine ay ?_;refine zr ?_;refine zX (hx) ?_;refine vn ?_;refine zz ?_;refine zq ?_;refine zm ?_;refine oC ?_;refine jG rfl rfl ?_;refine JM ?_)
   (apply c_;(exact fZ.one (.tmp rfl rfl));(refine Le.fe ?_;(rfl)))
 ·rw[dI aG] at he
  rw[he]
  (refine og ?_;refine A2 ?_;refine JM ?_)
  (apply c_;(exact fZ.one (.tmp rfl rfl));(refine Le.fe ?_;(rfl)))
end Go.Ab
/- Chapter 24:the laws' head is true. -/
namespace Go.Ab
open Go Go.Proofs
open Nat (reduceAdd reduceSub)
set_option maxRecDepth 100000
set_option maxHeartbeats 64000000
def flN:List gx:=[⟨⟨#[102]⟩,[0],false⟩,⟨⟨#[103]⟩,[0],true⟩]
def QQ:gu:=⟨[(⟨#[65]⟩,false)],flN,⟨none,0,0⟩,⟨none,0,0⟩⟩
def dN:List gv:=[((1,[]),(1,[0,1])),((1,[]),(1,[0,1]))]
def MQ:List fq:=[⟨0,0,0⟩]
theorem smN:sr [2]:=⟨by decide,by decide⟩
theorem hDN:qG [2] QQ.fields=dN:=by decide+kernel
theorem XD:fJ 0 dN=[(0,0),(0,1),(1,0),(1,1)]:=by decide+kernel
theorem AN:ke MQ:=⟨rfl,fun i h h0=>by simp [MQ] at h;omega⟩
theorem pmN:iH ([1,0]:List Int).length (fun _=>0) [1,0]:=⟨rfl,by decide,by decide,fun i h=>rfl⟩
theorem QU:zR QQ 2 dN [1,0] where
 stb:=by decide
 nb:=by decide
 sm:=by decide
 hi:=by decide
 rk:=by rw[XD];decide
 ar:=by decide
 pl:=by decide
 pa:=⟨_,pmN⟩
 mem:=by rw[XD];decide+kernel
theorem Ya:nT 0 ([1,0]:List Int).length (k9 QQ.fields) 2 (pE QQ.fields) dN [1,0]=[1,2,4,3,6,5,8,7]:=by
 unfold nT
 rw[XD]
 decide+kernel
theorem WJ:iL [2,1]:=⟨by decide,by decide⟩
theorem ZA:iL [1,2,3]:=⟨by decide,by decide⟩
theorem pdN:i_ MQ [1,2,3] [3,1]=(MQ,0):=Gh _ (by decide+kernel)
theorem bkN:nq MQ []=(MQ,0):=rfl
attribute [local irreducible] AW a_ fT ff AR fh e6 fp fA i_ jq nq nT qG
theorem Af:Fn Tryz.prog 5 [] (fe true):=by
 have fD:=t_ QQ [2] 2 (by decide) (by decide) smN (by decide) (by decide)
 rw[hDN] at fD
 have fL:=qt QQ [2] 2 dN [1,0] QU
 rw[Ya] at fL
 have fN:=Ja
 have fP:=sy MQ [2,1] [1,2] AN WJ (by decide) (by decide) (by decide) (by decide)
 have gP:=wq AN WJ (by decide) [1,2] (by decide) (by decide)
 have fQ:=sy MQ [1,2,3] [3,1] AN ZA (by decide) (by decide) (by decide) (by decide)
 rw[pdN] at fQ
 have fB:=CG QQ [2] 2 dN [] MQ 0 AN (by simp) (by simp) (by decide) (by decide)
 rw[List.map_nil,bkN] at fB
 have fS:=H8 [1,2,4,3,6,5,8,7] [1,2,4,3,6,5,8,7] (by decide)
 rw[decide_eq_true rfl] at fS
 generalize i_ MQ [2,1] [1,2]=p at fP gP
 obtain⟨g1,r1⟩:=p
 have hlen:=gP.len
 simp only at fP hlen
 have MP:g1.length≤100000:=by
  have:MQ.length=1:=rfl
  simp only[List.length_cons,List.length_nil] at hlen
  omega
 have e1:=wQ g1 [false,false] r1 gP.cir gP.ref MP (by decide)
 have e2:=wQ g1 [false,true] r1 gP.cir gP.ref MP (by decide)
 have e3:=wQ g1 [true,false] r1 gP.cir gP.ref MP (by decide)
 have e4:=wQ g1 [true,true] r1 gP.cir gP.ref MP (by decide)
 have v1:=gP.val [false,false]
 have v2:=gP.val [false,true]
 have v3:=gP.val [true,false]
 have v4:=gP.val [true,true]
 simp only at v1 v2 v3 v4
 rw[v1,show Fc (jF [false,false]) (fun w=>jF [false,false] (gw [2,1] w)) [1,2]=true by decide+kernel] at e1
 rw[v2,show Fc (jF [false,true]) (fun w=>jF [false,true] (gw [2,1] w)) [1,2]=true by decide+kernel] at e2
 rw[v3,show Fc (jF [true,false]) (fun w=>jF [true,false] (gw [2,1] w)) [1,2]=false by decide+kernel] at e3
 rw[v4,show Fc (jF [true,true]) (fun w=>jF [true,true] (gw [2,1] w)) [1,2]=true by decide+kernel] at e4
 clear gP v1 v2 v3 v4
 have l1:=uN [false,true] [[2,1]] (fun p hp=>by rw[cp] at hp;subst hp;exact⟨WJ,by decide⟩) (by decide)
 rw[show xl [false,true] [[2,1]]=true by decide+kernel] at l1
 have l2:=uN [true] [[2,1]] (fun p hp=>by rw[cp] at hp;subst hp;exact⟨WJ,by decide⟩) (by decide)
 rw[show xl [true] [[2,1]]=false by decide+kernel] at l2
 have l3:=uN [] [] (by simp) (by decide)
 rw[show xl [] []=true by decide+kernel] at l3
 refine Fn.enter (n:=109) Tryz.func5 rfl rfl rfl rfl rfl (by decide) fun g fu fw=>?_;(try refine nz ?_)
 (refine nQ ?_;refine a_.iW 69 [0] rfl rfl rfl rfl rfl rfl rfl rfl rfl ?_;refine nz ?_;refine Pm ?_;refine wO ?_;refine a_.iW 71 [0,1] rfl rfl rfl rfl rfl rfl rfl rfl rfl ?_;refine nz ?_;refine wO ?_;refine a_.iW 71 [0,1,2] rfl rfl rfl rfl rfl rfl rfl rfl rfl ?_;refine nz ?_;refine a_.H2 rfl rfl ?_;refine nz ?_;refine a_.H2 rfl rfl ?_;refine nz ?_;(focus ((with_reducible apply a_.WM (k:=3));(iterate 6 exact rfl);(focus ((repeat ((any_goals (apply Jh.cons));(all_goals (try exact rfl));(all_goals (try (repeat (first|exact JG.nil|apply JG.cons))))));(any_goals (exact Jh.nil));done));exact rfl;exact rfl;(try refine nz ?_)));refine a_.iW 27 [0,1] rfl rfl rfl rfl rfl rfl rfl rfl rfl ?_;refine nz ?_;refine zf ?_;refine nd ?_;refine wO ?_;refine a_.iW 30 [0,1] rfl rfl rfl rfl rfl rfl rfl rfl rfl ?_;refine nz ?_;refine zf ?_;refine nd ?_;(iterate 2 refine j4 ?_);(iterate 3 refine Dn ?_);(with_reducible apply a_.Qd (fD));(repeat (first|exact .nil|(refine .cons rfl ?_ ?_;(first|exact .pv _|exact .own _ _ _ _ rfl|exact .nil _|exact .any _|exact .gy _|(refine .ia ?_;repeat (first|exact .nil|(refine .cons ?_ ?_;(first|exact .pv _|exact .own _ _ _ _ rfl|exact .nil _))))))));exact rfl;refine sM ?_;refine Q5 ?_;(iterate 2 refine j4 ?_);refine a_.gk rfl rfl rfl ?_;refine DG ?_;refine nz ?_;(iterate 2 refine Dn ?_);refine zP (fL) ?_;refine nv ?_;refine zP (fN) ?_;refine DG ?_;refine nz ?_;refine DG ?_;refine nz ?_;(iterate 2 refine Dn ?_);refine zP (fP) ?_;refine Po ?_;refine zf ?_;refine nv ?_;refine zP (fN) ?_;refine a_.Yv rfl rfl rfl rfl rfl rfl rfl rfl rfl rfl rfl rfl rfl rfl ?_;refine nz ?_;refine DG ?_;refine nz ?_;(iterate 2 refine Dn ?_);refine zP (fQ) ?_;refine Po ?_;refine zf ?_;refine Q4 ?_;refine zo ?_;refine AW.ie [0,1,2] [9] rfl (by assumption) aF aF rfl ?_;show a_ .held _ _ _ [_,_,_] _ _;refine j4 ?_;refine nG ?_;refine Q3 ?_;intro k_ jA;refine nz ?_;apply AR.cut [2,1,0,3,4,5,6,7,8,9];intro lx;apply AR.cut [2,1,0,3,4,5,6,7,8];intro p9;apply AR.cut [2,1,0,3,4,5,6,7];intro LW;apply AR.cut [2,1,0,3,4,5,7,8];intro JU;apply AR.cut [2,1,0,3,4,5,6,8];intro Lm;apply AR.cut [2,1,0,3,4,5,8];intro JN;apply AR.cut [2,1,0,3,8];intro Jd;(refine AR.iI (i:=3) (j:=8) rfl aF rfl rfl ?_ ?_<;>intro g_ eV hG);refine zP (fN) ?_;refine Q3 ?_;(refine AR.iI (i:=4) (j:=8) rfl aF rfl rfl ?_ ?_<;>intro g_ eV hG);refine zP (fB) ?_;refine Q3 ?_;(refine AR.iI (i:=5) (j:=8) rfl aF rfl rfl ?_ ?_<;>intro g_ eV hG);refine a_.oQ rfl rfl rfl ?_;refine Q3 ?_;(refine AR.Bk (i:=6) (j:=7) (m:=8) rfl aF rfl rfl rfl ?_ ?_ ?_<;>intro g_ eV hG);refine E7 ?_;(refine AR.iI (i:=7) (j:=8) rfl aF rfl rfl ?_ ?_<;>intro g_ eV hG);refine a_.extract rfl rfl rfl rfl ?_;refine xN ?_;refine AR.gc [14,11,6,4] rfl ?_;refine Xf ?_;exact AR.perm aF LW;refine NS ?_;exact AR.perm aF Lm;refine E7 ?_;(refine AR.iI (i:=6) (j:=8) rfl aF rfl rfl ?_ ?_<;>intro g_ eV hG);refine a_.extract rfl rfl rfl rfl ?_;refine sF ?_;refine AR.meet LW aF (fun g_=>e_ rfl ?_ ?_ rfl);(iterate 49 refine aA ?_);exact trivial;refine Q8 ?_;exact OG;refine NS ?_;exact AR.perm aF JU;refine NS ?_;exact AR.perm aF JN;refine pZ ?_;refine KA ?_;intro g_ eV hG;exact UQ;refine NS ?_;exact AR.perm aF Jd;refine pZ ?_;refine Q3 ?_;refine AR.fI (i:=3) rfl aF rfl ?_;intro g_ eV hG;refine zP (fN) ?_;refine sF ?_;refine AR.meet Jd aF (fun g_=>e_ rfl ?_ ?_ rfl);(iterate 46 refine aA ?_);exact trivial;(iterate 2 refine Q8 ?_);exact OG;refine AR.fI (i:=4) rfl aF rfl ?_;intro g_ eV hG;refine zP (fB) ?_;refine KA ?_;intro g_ eV hG;exact UQ;(refine AR.iI (i:=6) (j:=7) rfl aF rfl rfl ?_ ?_<;>intro g_ eV hG);refine a_.extract rfl rfl rfl rfl ?_;refine sF ?_;refine AR.meet Lm aF (fun g_=>e_ rfl ?_ ?_ rfl);(iterate 49 refine aA ?_);exact trivial;(iterate 2 refine Q8 ?_);exact OG;refine a_.extract rfl rfl rfl rfl ?_;refine sF ?_;refine AR.meet JU aF (fun g_=>e_ rfl ?_ ?_ rfl);(iterate 49 refine aA ?_);exact trivial;(iterate 2 refine Q8 ?_);exact OG;(refine AR.qM (i:=7) (j:=9) rfl aF rfl rfl aF ?_ ?_<;>intro g_ eV fz);refine a_.extract rfl rfl rfl rfl ?_;refine xN ?_;exact AR.perm aF p9;refine lN ?_;refine Ld ?_;intro g_ eV fz;refine a_.extract rfl rfl rfl rfl ?_;refine xN ?_;exact AR.perm aF lx;refine AR.fI (i:=6) rfl aF rfl ?_;intro g_ eV hG;refine a_.extract rfl rfl rfl rfl ?_;exact UH;refine AR.fI (i:=8) rfl aF rfl ?_;intro g_ eV hG;refine pZ ?_;exact UH;refine EC ?_;intro g_ eV fz;refine lN ?_;refine sF ?_;refine AR.meet lx aF (fun g_=>e_ rfl ?_ ?_ rfl);(iterate 50 refine aA ?_);exact trivial;(iterate 2 refine Q8 ?_);exact OG;refine Ae ?_;intro g_ eV fz;refine za ?_;refine sZ ?_;refine Q5 ?_;refine zm ?_;refine a_.Zt rfl rfl rfl rfl rfl rfl rfl rfl rfl rfl rfl rfl rfl rfl rfl rfl rfl rfl rfl rfl rfl rfl rfl rfl rfl rfl rfl rfl rfl ?_;refine nz ?_;refine zA (fS) ?_;refine zm ?_;refine OP ?_;refine zA (e1) ?_;refine qh ?_;refine OP ?_;refine zA (e2) ?_;refine qh ?_;refine OP ?_;refine zA (e3) ?_;refine CY ?_;refine qh ?_;refine OP ?_;refine zA (e4) ?_;refine qh ?_;refine oq ?_;refine a_.eql rfl rfl rfl rfl rfl ?_;refine qh ?_;refine zl ?_;refine a_.b_ 44 0 0 rfl rfl rfl rfl ?_;refine zl ?_;refine zb ?_;refine zl ?_;refine zn ?_;refine zl ?_;refine a_.eql rfl rfl rfl rfl rfl ?_;refine qh ?_;refine oq ?_;refine a_.eql rfl rfl rfl rfl rfl ?_;refine qh ?_;refine zl ?_;refine DG ?_;refine nz ?_;refine zl ?_;refine DG ?_;refine nz ?_;refine zl ?_;refine a_.H2 rfl rfl ?_;refine nz ?_;refine wO ?_;refine zl ?_;refine zA (l1) ?_;refine qh ?_;refine zl ?_;refine wO ?_;refine zl ?_;refine DG ?_;refine nz ?_;refine zl ?_;refine a_.H2 rfl rfl ?_;refine nz ?_;refine wO ?_;refine zl ?_;refine zA (l2) ?_;refine CY ?_;refine qh ?_;refine zl ?_;refine zA (l3) ?_;refine a_.kv rfl rfl rfl rfl rfl rfl ?_;refine j7 ?_)
 (apply c_;(exact fZ.one (.tmp rfl rfl));(refine Le.fe ?_;(rfl)))
end Go.Ab
