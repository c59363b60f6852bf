/- Chapter 05: all tuples over three columns, walked. -/
import Derived.Test.YtcklfjkaadfjjaaGreatAwM2
import Derived.Test.YtcklfjkaadfjjaaGreatAbZ
import Derived.Test.YtcklfjkaadfjjaaGreatAbL3
set_option linter.unusedSimpArgs false
set_option linter.unusedVariables false
open List renaming take_length→dF,getElem_mem→cT,drop→ep,getElem_drop→er,drop_eq_nil_of_le→dI,append_assoc→dG,map_append→cV,drop_eq_getElem_cons→dY,length_cons→cb,drop_length→dZ,map_cons→bz,map_nil→bY,take_zero→dK,sum_cons→ez,mem_of_mem_take→c7,nil_append→eA,mem_flatMap→dz,mem_range→dk,mem_singleton→cp,take_append_drop→eB,getElem_of_mem→dc,pairwise_append→eE,mem_append→bW,replicate→bX,map→dm,append_nil→bp,replicate_append_replicate→eG,map_replicate→dr,map_set→cz
open Int renaming toNat→eo,mul_nonneg→dv,mul_le_mul→eu,toNat_natCast→dg,emod_nonneg→c9,zero_add→eC,pow_succ→eD,mul_comm→dA,ediv_nonneg→dX,pow_zero→eF
open Nat renaming reduceBEq→c6,zero_le→bg,zero_lt_one→db,le_trans→aN,mul_le_mul→eb,lt_or_eq_of_le→ew,le_of_lt_succ→ey,le_refl→aM
open Bool renaming true_and→dt,false_and→du,and_eq_true→aW
namespace Go.Ab
open Go Go.Proofs
open Nat (reduceAdd reduceSub)
set_option maxRecDepth 20000
set_option maxHeartbeats 8000000
attribute [local irreducible] AW a_ fT ff AR fh e6 fp fA sS kE
theorem Kb (at':List Int) (st:Int) (ss:List Int) (hl:ss.length=3) (x y v:Nat) (hx:ss[0]'(by omega)=(x:Int)) (hy:ss[1]'(by omega)=(y:Int)) (hv:ss[2]'(by omega)=(v:Int)) (hs:x<at'.length) (jj:y<at'.length) (hs3:v<at'.length) (h:sr at') (yB:at'.sum≤1000):
  Fn Tryz.prog 65 [pI at' st,.pv (ints ss)] (mA (3,sS at'.sum 0 [((at'.take x).sum,at'[x].toNat),((at'.take y).sum,at'[y].toNat),((at'.take v).sum,at'[v].toNat)])):=by
 have hle:=h.1
 have hb:=h.take x
 have Hl:=h.take y
 have hb3:=h.take v
 have GM:=h.take at'.length
 rw[dF] at GM
 have VM:=h.2 _ (cT hs)
 have RO:=h.2 _ (cT jj)
 have YI:=h.2 _ (cT hs3)
 have Kq:=jg ss.length 1 3
 rw[decide_eq_true aG] at Kq
 have H6:=jg (ss[0]'(by omega)) 0 (at'.length - 1)
 rw[decide_eq_true aG] at H6
 have V5:=jg (ss[1]'(by omega)) 0 (at'.length - 1)
 rw[decide_eq_true aG] at V5
 have hw4:=jg (ss[2]'(by omega)) 0 (at'.length - 1)
 rw[decide_eq_true aG] at hw4
 have G4:=o9 at' st x h (by omega)
 have EG:=o9 at' st y h (by omega)
 have SY:=o9 at' st v h (by omega)
 have QP:=qS at' st h
 have Lw:(ss[eo 0]'(by show 0<_;omega))=(x:Int):=hx
 obtain⟨ss1,Cg⟩:∃ss1,ss1=ep (eo 1) ss:=⟨_,rfl⟩
 have MP:ss1.length=2:=by rw[Cg];simp;omega
 have Td:(ss1[eo 0]'(by show 0<_;omega))=(y:Int):=by
  rw[← hy]
  simp only[Cg]
  rw[er];rfl
 obtain⟨ss2,Ls⟩:∃ss2,ss2=ep (eo 1) ss1:=⟨_,rfl⟩
 have pB:ss2.length=1:=by rw[Ls];simp;omega
 have ZH:(ss2[eo 0]'(by show 0<_;omega))=(v:Int):=by
  rw[← hv]
  simp only[Ls,Cg]
  rw[er,er];rfl
 have Y1:ep (eo 1) ss2=[]:=dI (by show _≤1;omega)
 have yW:(([]:List Int).length:Int)=0:=rfl
 rw[← Lw] at G4
 rw[← Td] at EG
 rw[← ZH] at SY
 have hz:at'[(ss[eo 0]'(by show 0<_;omega)).toNat]'(by rw[Lw];omega)=at'[x]:=by simp only[Lw];rfl
 have Za:at'[(ss1[eo 0]'(by show 0<_;omega)).toNat]'(by rw[Td];omega)=at'[y]:=by simp only[Td];rfl
 have hz3:at'[(ss2[eo 0]'(by show 0<_;omega)).toNat]'(by rw[ZH];omega)=at'[v]:=by simp only[ZH];rfl
 generalize at'[x]=z at hz VM ⊢
 generalize at'[y]=z2 at Za RO ⊢
 generalize at'[v]=z3 at hz3 YI ⊢
 generalize hf:(at'.take x).sum=f at hb G4 ⊢
 generalize yY:(at'.take y).sum=f2 at Hl EG ⊢
 generalize Wy:(at'.take v).sum=f3 at hb3 SY ⊢
 generalize hn:at'.sum=n at GM QP yB ⊢
 refine Fn.enter (n:=43) Tryz.func65 rfl rfl rfl rfl rfl (by decide) fun g fu fw=>?_;(try refine nz ?_)
 (refine lV ?_;refine pZ ?_;refine zd ?_;refine rH ?_;refine zn ?_;refine zA (Kq) ?_;refine vj ?_;refine rX ?_;refine zm ?_;refine uj ?_)
 (refine nz ?_;apply AW.fO [15,14,4,2,1] [1,0] (fun k:Nat=>([(16,eU k)]:List (Nat×AV))) (fun k:Nat=>([]:List (Nat×Option Ob))) (fun k:Nat=>k≤3) (fun k:Nat=>3 - k) (0);(conv=>lhs;simp only[Nf.jI,Nf.all,c6,reduceAdd,reduceSub]);(all_goals skip))
 ·exact bg _
 ·exact UN
 rintro k hk
 by_cases yx:k<3
 ·by_cases nh:k=0
  ·subst nh
   (refine rN ?_;refine ay ?_;refine IG ?_;refine zA (H6) ?_;refine v7 ?_)
   exact Vd
  by_cases we:k=1
  ·subst we
   (refine rN ?_;refine ay ?_;refine IG ?_;refine zA (V5) ?_;refine v7 ?_)
   exact TY
  ·obtain rfl:k=2:=by omega
   (refine rN ?_;refine ay ?_;refine IG ?_;refine zA (hw4) ?_;refine v7 ?_)
   exact⟨3,by omega,by omega,e_ rfl (by(refine aA ?_;(iterate 5 refine aA ?_);exact trivial)) (by(refine⟨.box _ rfl ?_,?_⟩;(iterate 2 refine aA ?_);exact trivial;refine⟨.box _ rfl ?_,?_⟩;(iterate 2 refine aA ?_);(iterate 2 exact trivial))) rfl⟩
 obtain rfl:k=3:=by omega
 (refine og ?_;refine zm ?_;refine zn ?_;refine Ip ?_;refine nG ?_;(with_reducible apply a_.inline (hf:=Tryz.func108));(with_reducible assumption);(iterate 10 exact rfl);intro g_ fu fw;refine xD ?_;refine rW ?_)
 refine AW.hZ (ps:=[35]) (by assumption) (by assumption) rfl rfl Tryz.func145 rfl rfl rfl rfl rfl rfl (by decide) ?_
 intro gB tm0 l0 ps0 asg0 body0 jW Hs sR jY IX uA
 (refine BL ?_;refine B1 ?_;refine zo ?_;(with_reducible apply AW.fG);exact rfl;exact rfl;kernel_rfl;(with_reducible assumption);refine j4 ?_;refine zb ?_;(focus ((with_reducible apply a_.e8);(iterate 7 exact rfl);omega;rotate_left;(first|omega|exact db|exact(by simp))));refine zr ?_;refine zA (G4) ?_;refine tr ?_;refine sO ?_)
 (refine nz ?_;apply AW.fO [5,4,1,2,3,1007,1004] [7,6,5,4,3,1,0] (fun i:Nat=>([(6,eU (f+i))]:List (Nat×AV))) (fun i:Nat=>([(2,some (.box [eU ss.length,.own 8 3 1 ((kE n 0 f i [(f2,z2.toNat),(f3,z3.toNat)]).map encI)])),(8,some .row)]:List (Nat×Option Ob))) (fun i:Nat=>i≤z.toNat) (fun i:Nat=>z.toNat - i) (0);(conv=>lhs;simp only[Nf.jI,Nf.all,c6,reduceAdd,reduceSub]);(all_goals skip))
 ·exact bg _
 ·exact Q42
 rintro i hi
 by_cases ft:i<z.toNat
 ·obtain⟨p1,hp1⟩:∃p1,p1=0*n+(f+(i:Int)):=⟨_,rfl⟩
  have hp1b:0≤p1∧p1≤1001000:=by omega
  have hp2:0≤(0*n+(f+(i:Int)))*n∧(0*n+(f+(i:Int)))*n≤1001000000:=by
   rw[← hp1]
   exact⟨dv aG aG,by
    have h1:=eu (by omega:p1≤1001000) (by omega:n≤1000) aG aG;omega⟩
  have oh:=me n 0 f i [(f2,z2.toNat),(f3,z3.toNat)]
  have hrl:(kE n 0 f i [(f2,z2.toNat),(f3,z3.toNat)]).length≤1000000000:=by
   rw[ph]
   have h1:i*rQ [(f2,z2.toNat),(f3,z3.toNat)]=i*(z2.toNat*z3.toNat):=by simp [rQ]
   rw[h1]
   exact aN (eb (by omega:i≤1000) (eb (by omega:z2.toNat≤1000) (by omega:z3.toNat≤1000))) (by omega)
  ((iterate 2 refine zo ?_);(with_reducible apply AW.fG);exact rfl;exact rfl;kernel_rfl;(with_reducible assumption);refine zh ?_;(focus ((with_reducible apply a_.e8);(iterate 7 exact rfl);omega;rotate_left;(first|omega|exact db|exact(by simp))));refine zr ?_;(focus ((with_reducible apply a_.e8);(iterate 7 exact rfl);omega;rotate_left;(first|omega|exact db|exact(by simp))));refine vQ ?_;refine MU ?_;show a_ .held _ _ _ [_,_,_,_,_,_] _ _;refine Iz ?_;intro k_ jA;refine Ck ?_;intro g_ eV hG;refine KS ?_;intro g_ eV;show a_ .held _ _ _ [_,_] _ _;refine Im ?_;refine Q3 ?_;intro k_ jA;refine nz ?_;refine EC ?_;intro g_ eV fz;(with_reducible apply a_.inline (hf:=Tryz.func108));(with_reducible assumption);(iterate 10 exact rfl);intro g_ fu fw;refine xD ?_;refine sZ ?_;refine AW.block ?_)
  rw[← Cg]
  refine AW.hZ (ps:=[43]) (by assumption) (by assumption) rfl rfl Tryz.func145 rfl rfl rfl rfl rfl rfl (by decide) ?_
  intro gC tm1 l1 ps1 asg1 body1 pY RD FD pW IL E9
  (refine BL ?_;refine B1 ?_;refine zo ?_;(with_reducible apply AW.fG);exact rfl;exact rfl;kernel_rfl;(with_reducible assumption);refine j4 ?_;refine zb ?_;(focus ((with_reducible apply a_.e8);(iterate 7 exact rfl);omega;rotate_left;(first|omega|exact db|exact(by simp))));refine zr ?_;refine zA (EG) ?_;refine tr ?_;refine sO ?_)
  (refine nz ?_;apply AW.fO [5,4,1,2,3,1006,1005,1004,1001,1002,1003,2007,2004] [13,12,11,10,9,8,7,6,5,4,3,1,0] (fun j:Nat=>([(6,eU (f2+j))]:List (Nat×AV))) (fun j:Nat=>([(2,some (.box [eU ss.length,.own 8 3 1 ((kE n 0 f i [(f2,z2.toNat),(f3,z3.toNat)]++kE n (0*n+(f+(i:Int))) f2 j [(f3,z3.toNat)]).map encI)]))]:List (Nat×Option Ob))) (fun j:Nat=>j≤z2.toNat) (fun j:Nat=>z2.toNat - j) (0);(conv=>lhs;simp only[Nf.jI,Nf.all,c6,reduceAdd,reduceSub]);(all_goals skip))
  ·exact bg _
  ·exact Q29
  rintro j hj
  by_cases gM:j<z2.toNat
  ·obtain⟨p2,XU⟩:∃p2,p2=(0*n+(f+(i:Int)))*n+(f2+(j:Int)):=⟨_,rfl⟩
   have hp2b:0≤p2∧p2≤1002001000:=by omega
   have hp3:0≤((0*n+(f+(i:Int)))*n+(f2+(j:Int)))*n∧((0*n+(f+(i:Int)))*n+(f2+(j:Int)))*n≤1002001000000:=by
    rw[← XU]
    exact⟨dv aG aG,by
     have h1:=eu (by omega:p2≤1002001000) (by omega:n≤1000) aG aG;omega⟩
   have ka:=me n (0*n+(f+(i:Int))) f2 j [(f3,z3.toNat)]
   have X6:(kE n (0*n+(f+(i:Int))) f2 j [(f3,z3.toNat)]).length≤1000000:=by
    rw[ph]
    have h1:j*rQ [(f3,z3.toNat)]=j*z3.toNat:=by simp [rQ]
    rw[h1]
    exact aN (eb (by omega:j≤1000) (by omega:z3.toNat≤1000)) (by omega)
   have hpj:0≤(0*n+(f+(i:Int)))*n+(f2+(j:Int))∧(0*n+(f+(i:Int)))*n+(f2+(j:Int))≤20000000000:=by omega
   ((iterate 2 refine zo ?_);(with_reducible apply AW.fG);exact rfl;exact rfl;kernel_rfl;(with_reducible assumption);refine zh ?_;(focus ((with_reducible apply a_.e8);(iterate 7 exact rfl);omega;rotate_left;(first|omega|exact db|exact(by simp))));refine zr ?_;(focus ((with_reducible apply a_.e8);(iterate 7 exact rfl);omega;rotate_left;(first|omega|exact db|exact(by simp))));refine vQ ?_;refine MU ?_;show a_ .held _ _ _ [_,_,_,_,_,_] _ _;refine Iz ?_;intro k_ jA;refine Ck ?_;intro g_ eV hG;refine KS ?_;intro g_ eV;show a_ .held _ _ _ [_,_] _ _;refine Im ?_;refine Q3 ?_;intro k_ jA;refine nz ?_;refine EC ?_;intro g_ eV fz;(with_reducible apply a_.inline (hf:=Tryz.func108));(with_reducible assumption);(iterate 10 exact rfl);intro g_ fu fw;refine xD ?_;refine sZ ?_;refine AW.block ?_)
   rw[← Ls]
   refine AW.hZ (ps:=[43]) (by assumption) (by assumption) rfl rfl Tryz.func145 rfl rfl rfl rfl rfl rfl (by decide) ?_
   intro gD tm2 l2 ps2 asg2 body2 FL Yy Uu E_ Mn R4
   (refine BL ?_;refine B1 ?_;refine zo ?_;(with_reducible apply AW.fG);exact rfl;exact rfl;kernel_rfl;(with_reducible assumption);refine j4 ?_;refine zb ?_;(focus ((with_reducible apply a_.e8);(iterate 7 exact rfl);omega;rotate_left;(first|omega|exact db|exact(by simp))));refine zr ?_;refine zA (SY) ?_;refine tr ?_;refine sO ?_)
   (refine nz ?_;apply AW.fO [5,4,1,2,3,1006,1005,1004,1001,1002,1003,2006,2005,2004,2001,2002,2003,3007,3004] [18,17,16,15,14,13,12,11,10,9,8,7,6,5,4,3,1,0] (fun q:Nat=>([(6,eU (f3+q))]:List (Nat×AV))) (fun q:Nat=>([(2,some (.box [eU ss.length,.own 8 3 1 ((kE n 0 f i [(f2,z2.toNat),(f3,z3.toNat)]++(kE n (0*n+(f+(i:Int))) f2 j [(f3,z3.toNat)]++kE n ((0*n+(f+(i:Int)))*n+(f2+(j:Int))) f3 q [])).map encI)]))]:List (Nat×Option Ob))) (fun q:Nat=>q≤z3.toNat) (fun q:Nat=>z3.toNat - q) (0);(conv=>lhs;simp only[Nf.jI,Nf.all,c6,reduceAdd,reduceSub]);(all_goals skip))
   ·exact bg _
   ·exact e_ rfl (by(refine⟨.d_ (by first|rfl|simp [fg]),?_⟩;refine⟨.d_ (by first|rfl|simp [fg]),?_⟩;(iterate 4 refine aA ?_);(iterate 2 refine⟨.d_ (by first|rfl|simp [fg]),?_⟩);(iterate 4 refine aA ?_);(iterate 2 refine⟨.d_ (by first|rfl|simp [fg]),?_⟩);(iterate 6 refine aA ?_);exact trivial)) (by(refine⟨.box _ rfl ?_,?_⟩;refine⟨.d_ (by first|rfl|simp [fg]),?_⟩;refine⟨.fR (by first|rfl|simp [fg]) rfl,?_⟩;exact trivial;refine⟨.box _ rfl ?_,?_⟩;refine aA ?_;exact trivial;refine⟨.loop rfl,?_⟩;refine⟨.box _ rfl ?_,?_⟩;refine⟨.fb (by first|rfl|simp [fg]),?_⟩;exact trivial;refine⟨.box _ rfl ?_,?_⟩;refine⟨.d_ (by first|rfl|simp [fg]),?_⟩;exact trivial;refine⟨.box _ rfl ?_,?_⟩;refine⟨.fb (by first|rfl|simp [fg]),?_⟩;refine⟨.d_ (by first|rfl|simp [fg]),?_⟩;exact trivial;refine⟨.box _ rfl ?_,?_⟩;refine aA ?_;exact trivial;refine⟨.loop rfl,?_⟩;refine⟨.box _ rfl ?_,?_⟩;refine⟨.fb (by first|rfl|simp [fg]),?_⟩;exact trivial;refine⟨.box _ rfl ?_,?_⟩;refine⟨.d_ (by first|rfl|simp [fg]),?_⟩;exact trivial;refine⟨.box _ rfl ?_,?_⟩;refine⟨.fb (by first|rfl|simp [fg]),?_⟩;refine⟨.d_ (by first|rfl|simp [fg]),?_⟩;exact trivial;refine aC ?_;refine⟨.box _ rfl ?_,?_⟩;refine aA ?_;exact trivial;refine⟨.loop rfl,?_⟩;refine⟨.box _ rfl ?_,?_⟩;refine⟨.fb (by first|rfl|simp [fg]),?_⟩;exact trivial;refine⟨.box _ rfl ?_,?_⟩;refine⟨.d_ (by first|rfl|simp [fg]),?_⟩;exact trivial;refine⟨.box _ rfl ?_,?_⟩;refine⟨.fb (by first|rfl|simp [fg]),?_⟩;refine⟨.d_ (by first|rfl|simp [fg]),?_⟩;exact trivial;refine⟨.box _ rfl ?_,?_⟩;refine⟨.d_ (by first|rfl|simp [fg]),?_⟩;refine aA ?_;exact trivial;refine⟨.box _ rfl ?_,?_⟩;refine⟨.fb (by first|rfl|simp [fg]),?_⟩;refine⟨.d_ (by first|rfl|simp [fg]),?_⟩;(iterate 2 exact trivial))) rfl
   rintro q hq
   by_cases BD:q<z3.toNat
   ·have nA:=me n ((0*n+(f+(i:Int)))*n+(f2+(j:Int))) f3 q []
    have hrl3:(kE n ((0*n+(f+(i:Int)))*n+(f2+(j:Int))) f3 q []).length≤1000:=by rw[ph];simp [rQ];omega
    ((iterate 2 refine zo ?_);(with_reducible apply AW.fG);exact rfl;exact rfl;kernel_rfl;(with_reducible assumption);refine zh ?_;(focus ((with_reducible apply a_.e8);(iterate 7 exact rfl);omega;rotate_left;(first|omega|exact db|exact(by simp))));refine zr ?_;(focus ((with_reducible apply a_.e8);(iterate 7 exact rfl);omega;rotate_left;(first|omega|exact db|exact(by simp))));refine vQ ?_;refine MU ?_;show a_ .held _ _ _ [_,_,_,_,_,_] _ _;refine Iz ?_;intro k_ jA;refine Ck ?_;intro g_ eV hG;refine KS ?_;intro g_ eV;show a_ .held _ _ _ [_,_] _ _;refine Im ?_;refine Q3 ?_;intro k_ jA;refine nz ?_;refine EC ?_;intro g_ eV fz;(with_reducible apply a_.inline (hf:=Tryz.func108));(with_reducible assumption);(iterate 10 exact rfl);intro g_ fu fw;refine xD ?_;refine sZ ?_;refine AW.block ?_)
    rw[Y1]
    refine AW.hZ (ps:=[43]) (by assumption) (by assumption) rfl rfl Tryz.func145 rfl rfl rfl rfl rfl rfl (by decide) ?_
    intro gE tm3 l3 ps3 asg3 body3 SU hroE Yq RH Ry Y9
    have WB:tm3.size=48:=Y9
    have MC:tm2.size=48:=R4
    have tl:tm1.size=48:=E9
    have lT:tm0.size=43:=uA
    (refine BL ?_;refine tn ?_;(iterate 2 refine zb ?_);(with_reducible apply a_.jL SU Yq RH WB);(iterate 8 exact rfl);intro gR n8 q8 pf;refine vU ?_;refine And.intro (show jw _ _ _ _ from⟨_,_,_,_,rfl⟩) ?_;refine H_ ?_;(with_reducible apply a_.Bz FL q8 (fun j hj=>(congrArg gR.held (show j+HS+2*HS=j+HS+HS+HS by omega)).trans ((pf (j+HS)).trans ((Ry j).trans (E_ j hj)))) MC);(iterate 8 exact rfl);intro gS P4 Pc L8;refine vU ?_;refine And.intro (show jw _ _ _ _ from⟨_,_,_,_,rfl⟩) ?_;refine H_ ?_;(with_reducible apply a_.GH pY Pc (fun j hj=>(congrArg gS.held (show j+HS+4*HS=j+HS+HS+HS+HS+HS by omega)).trans ((L8 (j+HS+HS+HS)).trans ((pf (j+HS+HS)).trans ((Ry (j+HS)).trans ((Mn j).trans (pW j hj)))))) tl);(iterate 8 exact rfl);intro gT Vn U1 TV;refine vU ?_;refine And.intro (show jw _ _ _ _ from⟨_,_,_,_,rfl⟩) ?_;refine H_ ?_;(with_reducible apply a_.O2 jW U1 (fun j hj=>(congrArg gT.held (show j+HS+6*HS=j+HS+HS+HS+HS+HS+HS+HS by omega)).trans ((TV (j+HS+HS+HS+HS+HS)).trans ((L8 (j+HS+HS+HS+HS)).trans ((pf (j+HS+HS+HS)).trans ((Ry (j+HS+HS)).trans ((Mn (j+HS)).trans ((IL j).trans (jY j hj)))))))) lT);(iterate 8 exact rfl);intro gU hroU_ hwtU hupU;refine vU ?_;refine And.intro (show jw _ _ _ _ from⟨_,_,_,_,rfl⟩) ?_;refine Bo ?_;refine AW.region ?_;refine zi ?_;refine q9 ?_;(with_reducible apply a_.fl);exact rfl;exact ai;(iterate 9 exact rfl);exact ab;refine nz ?_;refine O_ ?_;refine gL ?_;(with_reducible apply fX);exact⟨_,_,_,_,rfl⟩;refine HR ?_;(with_reducible apply fX);exact⟨_,_,_,_,rfl⟩;refine HR ?_;(with_reducible apply fX);exact⟨_,_,_,_,rfl⟩;refine HR ?_;(with_reducible apply fX);exact⟨_,_,_,_,rfl⟩;refine nz ?_;refine qu ?_;refine iU ?_;refine ic (.inr rfl) rfl ?_;(try refine nz ?_);refine H9 ?_;refine rS ?_)
    exact⟨q+1,by omega,by omega,e_ rfl (by(refine⟨.d_ (by first|rfl|(push_cast;omega)|(rw[nA,f_,← dG,← dG,← dG,cV (l₂:=[_])];rfl)),?_⟩;refine⟨.d_ (by first|rfl|(push_cast;omega)|(rw[nA,f_,← dG,← dG,← dG,cV (l₂:=[_])];rfl)),?_⟩;(iterate 4 refine aA ?_);refine⟨.d_ (by first|rfl|(push_cast;omega)|(rw[nA,f_,← dG,← dG,← dG,cV (l₂:=[_])];rfl)),?_⟩;refine⟨.d_ (by first|rfl|(push_cast;omega)|(rw[nA,f_,← dG,← dG,← dG,cV (l₂:=[_])];rfl)),?_⟩;(iterate 4 refine aA ?_);refine⟨.d_ (by first|rfl|(push_cast;omega)|(rw[nA,f_,← dG,← dG,← dG,cV (l₂:=[_])];rfl)),?_⟩;refine⟨.d_ (by first|rfl|(push_cast;omega)|(rw[nA,f_,← dG,← dG,← dG,cV (l₂:=[_])];rfl)),?_⟩;(iterate 6 refine aA ?_);exact trivial)) (by(refine⟨.box _ rfl ?_,?_⟩;refine⟨.d_ (by first|rfl|(push_cast;omega)|(rw[nA,f_,← dG,← dG,← dG,cV (l₂:=[_])];rfl)),?_⟩;refine⟨.fR (by first|rfl|(push_cast;omega)|(rw[nA,f_,← dG,← dG,← dG,cV (l₂:=[_])];rfl)) rfl,?_⟩;exact trivial;refine⟨.box _ rfl ?_,?_⟩;refine aA ?_;exact trivial;refine⟨.loop rfl,?_⟩;refine⟨.box _ rfl ?_,?_⟩;refine⟨.fb (by first|rfl|(push_cast;omega)|(rw[nA,f_,← dG,← dG,← dG,cV (l₂:=[_])];rfl)),?_⟩;exact trivial;refine⟨.box _ rfl ?_,?_⟩;refine⟨.d_ (by first|rfl|(push_cast;omega)|(rw[nA,f_,← dG,← dG,← dG,cV (l₂:=[_])];rfl)),?_⟩;exact trivial;refine⟨.box _ rfl ?_,?_⟩;refine⟨.fb (by first|rfl|(push_cast;omega)|(rw[nA,f_,← dG,← dG,← dG,cV (l₂:=[_])];rfl)),?_⟩;refine⟨.d_ (by first|rfl|(push_cast;omega)|(rw[nA,f_,← dG,← dG,← dG,cV (l₂:=[_])];rfl)),?_⟩;exact trivial;refine⟨.box _ rfl ?_,?_⟩;refine aA ?_;exact trivial;refine⟨.loop rfl,?_⟩;refine⟨.box _ rfl ?_,?_⟩;refine⟨.fb (by first|rfl|(push_cast;omega)|(rw[nA,f_,← dG,← dG,← dG,cV (l₂:=[_])];rfl)),?_⟩;exact trivial;refine⟨.box _ rfl ?_,?_⟩;refine⟨.d_ (by first|rfl|(push_cast;omega)|(rw[nA,f_,← dG,← dG,← dG,cV (l₂:=[_])];rfl)),?_⟩;exact trivial;refine⟨.box _ rfl ?_,?_⟩;refine⟨.fb (by first|rfl|(push_cast;omega)|(rw[nA,f_,← dG,← dG,← dG,cV (l₂:=[_])];rfl)),?_⟩;refine⟨.d_ (by first|rfl|(push_cast;omega)|(rw[nA,f_,← dG,← dG,← dG,cV (l₂:=[_])];rfl)),?_⟩;exact trivial;refine aC ?_;refine⟨.box _ rfl ?_,?_⟩;refine aA ?_;exact trivial;refine⟨.loop rfl,?_⟩;refine⟨.box _ rfl ?_,?_⟩;refine⟨.fb (by first|rfl|(push_cast;omega)|(rw[nA,f_,← dG,← dG,← dG,cV (l₂:=[_])];rfl)),?_⟩;exact trivial;refine⟨.box _ rfl ?_,?_⟩;refine⟨.d_ (by first|rfl|(push_cast;omega)|(rw[nA,f_,← dG,← dG,← dG,cV (l₂:=[_])];rfl)),?_⟩;exact trivial;refine⟨.box _ rfl ?_,?_⟩;refine⟨.fb (by first|rfl|(push_cast;omega)|(rw[nA,f_,← dG,← dG,← dG,cV (l₂:=[_])];rfl)),?_⟩;refine⟨.d_ (by first|rfl|(push_cast;omega)|(rw[nA,f_,← dG,← dG,← dG,cV (l₂:=[_])];rfl)),?_⟩;exact trivial;refine⟨.box _ rfl ?_,?_⟩;refine⟨.d_ (by first|rfl|(push_cast;omega)|(rw[nA,f_,← dG,← dG,← dG,cV (l₂:=[_])];rfl)),?_⟩;refine aA ?_;exact trivial;refine⟨.box _ rfl ?_,?_⟩;refine⟨.fb (by first|rfl|(push_cast;omega)|(rw[nA,f_,← dG,← dG,← dG,cV (l₂:=[_])];rfl)),?_⟩;refine⟨.d_ (by first|rfl|(push_cast;omega)|(rw[nA,f_,← dG,← dG,← dG,cV (l₂:=[_])];rfl)),?_⟩;(iterate 2 exact trivial))) rfl⟩
   ·obtain rfl:q=z3.toNat:=by omega
    ((iterate 2 refine zo ?_);(with_reducible apply AW.fG);exact rfl;exact rfl;kernel_rfl;(with_reducible assumption);refine zh ?_;(focus ((with_reducible apply a_.e8);(iterate 7 exact rfl);omega;rotate_left;(first|omega|exact db|exact(by simp))));refine zr ?_;(focus ((with_reducible apply a_.e8);(iterate 7 exact rfl);omega;rotate_left;(first|omega|exact db|exact(by simp))));refine vQ ?_;refine CT ?_;refine H9 ?_;refine rS ?_)
    exact⟨j+1,by omega,by omega,e_ rfl (by(refine⟨.d_ (by first|rfl|(push_cast;omega)|(rw[ka,gf])),?_⟩;refine⟨.d_ (by first|rfl|(push_cast;omega)|(rw[ka,gf])),?_⟩;(iterate 4 refine aA ?_);refine⟨.d_ (by first|rfl|(push_cast;omega)|(rw[ka,gf])),?_⟩;refine⟨.d_ (by first|rfl|(push_cast;omega)|(rw[ka,gf])),?_⟩;(iterate 6 refine aA ?_);exact trivial)) (by(refine⟨.box _ rfl ?_,?_⟩;refine⟨.d_ (by first|rfl|(push_cast;omega)|(rw[ka,gf])),?_⟩;refine⟨.fR (by first|rfl|(push_cast;omega)|(rw[ka,gf])) rfl,?_⟩;exact trivial;refine⟨.box _ rfl ?_,?_⟩;refine aA ?_;exact trivial;refine⟨.loop rfl,?_⟩;refine⟨.box _ rfl ?_,?_⟩;refine⟨.fb (by first|rfl|(push_cast;omega)|(rw[ka,gf])),?_⟩;exact trivial;refine⟨.box _ rfl ?_,?_⟩;refine⟨.d_ (by first|rfl|(push_cast;omega)|(rw[ka,gf])),?_⟩;exact trivial;refine⟨.box _ rfl ?_,?_⟩;refine⟨.fb (by first|rfl|(push_cast;omega)|(rw[ka,gf])),?_⟩;refine⟨.d_ (by first|rfl|(push_cast;omega)|(rw[ka,gf])),?_⟩;exact trivial;refine aC ?_;refine⟨.box _ rfl ?_,?_⟩;refine aA ?_;exact trivial;refine⟨.loop rfl,?_⟩;refine⟨.box _ rfl ?_,?_⟩;refine⟨.fb (by first|rfl|(push_cast;omega)|(rw[ka,gf])),?_⟩;exact trivial;refine⟨.box _ rfl ?_,?_⟩;refine⟨.d_ (by first|rfl|(push_cast;omega)|(rw[ka,gf])),?_⟩;exact trivial;refine⟨.box _ rfl ?_,?_⟩;refine⟨.fb (by first|rfl|(push_cast;omega)|(rw[ka,gf])),?_⟩;refine⟨.d_ (by first|rfl|(push_cast;omega)|(rw[ka,gf])),?_⟩;exact trivial;refine⟨.box _ rfl ?_,?_⟩;refine⟨.d_ (by first|rfl|(push_cast;omega)|(rw[ka,gf])),?_⟩;refine aA ?_;exact trivial;refine⟨.box _ rfl ?_,?_⟩;refine⟨.fb (by first|rfl|(push_cast;omega)|(rw[ka,gf])),?_⟩;refine⟨.d_ (by first|rfl|(push_cast;omega)|(rw[ka,gf])),?_⟩;(iterate 2 exact trivial))) rfl⟩
  ·obtain rfl:j=z2.toNat:=by omega
   ((iterate 2 refine zo ?_);(with_reducible apply AW.fG);exact rfl;exact rfl;kernel_rfl;(with_reducible assumption);refine zh ?_;(focus ((with_reducible apply a_.e8);(iterate 7 exact rfl);omega;rotate_left;(first|omega|exact db|exact(by simp))));refine zr ?_;(focus ((with_reducible apply a_.e8);(iterate 7 exact rfl);omega;rotate_left;(first|omega|exact db|exact(by simp))));refine vQ ?_;refine CT ?_;refine H9 ?_;refine rS ?_)
   exact Q33
 ·obtain rfl:i=z.toNat:=by omega
  ((iterate 2 refine zo ?_);(with_reducible apply AW.fG);exact rfl;exact rfl;kernel_rfl;(with_reducible assumption);refine zh ?_;(focus ((with_reducible apply a_.e8);(iterate 7 exact rfl);omega;rotate_left;(first|omega|exact db|exact(by simp))));refine zr ?_;(focus ((with_reducible apply a_.e8);(iterate 7 exact rfl);omega;rotate_left;(first|omega|exact db|exact(by simp))));refine vQ ?_;refine CT ?_;refine H3 ?_;refine Ib ?_)
  (apply c_;(exact fZ.one (.cell rfl rfl rfl rfl));(refine Le.ia ?_;refine gX.cons ?_ ?_;refine Le.eU ?_;(first|rfl|(rw[hl];rfl)|(rw[gf]));refine gX.cons ?_ ?_;refine Le.fR ?_;(first|rfl|(rw[hl];rfl)|(rw[gf]));exact gX.nil))
end Go.Ab
/- Chapter 07:a field's columns. -/
namespace Go.Ab
open Go Go.Proofs
set_option maxRecDepth 20000
set_option maxHeartbeats 8000000
attribute [local irreducible] AW a_ fT ff AR fh e6 fp fA
abbrev pD (f:gx):AV:=.agg [.pv (.lit (.string f.name)),.pv (ints f.sorts),fe f.var]
def xz (k:Nat) (l:List Int):Bool:=l.all fun s=>decide (0≤s∧s<k)
theorem AJ {k:Nat} {l:List Int} {j:Nat} (hj:j<l.length):xz k (l.drop j)=(decide (0≤l[j]∧l[j]<k) && xz k (l.drop (j+1))):=by
 rw[dY hj];rfl
def jT (k:Nat) (l:List Int):Bool:=decide (1≤l.length∧l.length≤3) && xz k l
theorem EN (s:gu) (f:gx):Fn Tryz.prog 62 [De s,pD f] (fe (jT s.sorts.length f.sorts)):=by
 obtain⟨so,fs,p,q⟩:=s
 obtain⟨nm,l,v⟩:=f
 unfold jT
 simp only
 by_cases h1:1≤l.length∧l.length≤3
 ·rw[decide_eq_true h1,dt]
  refine Fn.enter (n:=20) Tryz.func62 rfl rfl rfl rfl rfl (by decide) fun g fu fw=>?_;(try refine nz ?_)
  (refine wh ?_;refine vz ?_;refine Es ?_;refine yy ?_;refine mW ?_;refine a_.b_ 71 1 1 rfl rfl rfl rfl ?_;refine x9 ?_;refine zn ?_;refine wL ?_;refine qZ ?_;refine Es ?_;refine a_.kX rfl rfl rfl ?_;(with_reducible apply a_.inline (hf:=Tryz.func104));(with_reducible assumption);(iterate 10 exact rfl);intro g_ fu fw;refine nz ?_;refine tX ?_;refine a_.iX rfl rfl rfl ?_;(with_reducible apply a_.inline (hf:=Tryz.func140));(with_reducible assumption);(iterate 10 exact rfl);intro g_ fu fw;refine nz ?_;refine zq ?_;refine lM ?_;refine uj ?_)
  refine AW.loop (fun(k:Nat)=>{n:=19,env:=[(0,.pv (ints l)),(1,.jd (.func 105) [] [.ptr 0 0]),(7,eU l.length),(8,eU k)],fY:=[(0,some (.box [.pv (.slice 2 (so.map mT)),.pv (.slice 3 (fs.map qj)),vO p,vO q]))],nx:=2}) (fun k=>k≤l.length∧xz so.length l=xz so.length (l.drop k)) (fun k=>l.length - k) 0 ?_ ?_ ?_
  ·exact⟨bg _,rfl⟩
  ·exact e_ rfl (by(refine aA ?_;(iterate 3 refine aA ?_);exact trivial)) (by(refine⟨.box _ rfl ?_,?_⟩;(iterate 4 refine aA ?_);(iterate 2 exact trivial))) rfl
  rintro k ⟨hk,he⟩
  by_cases ft:k<l.length
  ·rw[AJ ft] at he
   by_cases h2:0≤l[k]∧l[k]<so.length
   ·rw[decide_eq_true h2,dt] at he
    (refine nR ?_;refine zu ?_;(iterate 2 refine zm ?_);refine ay ?_;refine zr ?_;(with_reducible apply a_.inline (hf:=Tryz.func105));(with_reducible assumption);(iterate 10 exact rfl);intro g_ fu fw;refine nz ?_;refine tX ?_;refine zs ?_;refine nS ?_;refine Jj ?_;refine vV ?_;refine A2 ?_;refine nz ?_;refine zd ?_;refine zk ?_;refine AW.skip ?_;refine vP ?_;refine wb ?_)
    exact⟨k+1,⟨by omega,he⟩,by omega,e_ rfl (by(refine aA ?_;(iterate 3 refine aA ?_);exact trivial)) (by(refine⟨.box _ rfl ?_,?_⟩;(iterate 4 refine aA ?_);(iterate 2 exact trivial))) rfl⟩
   ·rw[decide_eq_false h2,du] at he
    (refine nR ?_;refine zu ?_;(iterate 2 refine zm ?_);refine ay ?_;refine zr ?_;(with_reducible apply a_.inline (hf:=Tryz.func105));(with_reducible assumption);(iterate 10 exact rfl);intro g_ fu fw;refine nz ?_;refine tX ?_;refine zs ?_;refine zm ?_;(focus ((with_reducible apply a_.kV);(iterate 6 exact rfl);all_goals intro qp));refine mW ?_;refine Jj ?_;refine vV ?_;refine A2 ?_;refine nz ?_;refine s6 ?_;refine zq ?_;refine zm ?_;refine oC ?_;refine jG rfl rfl ?_;refine JM ?_;(all_goals skip);rotate_left;refine SN ?_;refine A2 ?_;refine nz ?_;refine zz ?_;refine zq ?_;refine zm ?_;refine oC ?_;refine jG rfl rfl ?_;refine JM ?_;(all_goals skip);rotate_left)
    all_goals (apply c_;(exact fZ.one (.tmp rfl rfl));(refine Le.fe ?_;(exact he.symm)))
  ·rw[dI aG] at he
   (refine og ?_;refine A2 ?_;refine JM ?_)
   (apply c_;(exact fZ.one (.tmp rfl rfl));(refine Le.fe ?_;(exact he.symm)))
 ·rw[decide_eq_false h1,du]
  refine Fn.enter (n:=20) Tryz.func62 rfl rfl rfl rfl rfl (by decide) fun g fu fw=>?_;(try refine nz ?_)
  (refine wh ?_;refine vz ?_;refine Es ?_;refine yy ?_;refine zm ?_;(focus ((with_reducible apply a_.kV);(iterate 6 exact rfl);all_goals intro qp));refine a_.b_ 71 1 1 rfl rfl rfl rfl ?_;refine x9 ?_;refine zn ?_;refine wL ?_;refine sK ?_;(all_goals skip);rotate_left;refine RQ ?_;refine xH ?_;(all_goals skip);rotate_left)
  all_goals (apply c_;(exact fZ.one (.tmp rfl rfl));(refine Le.fe ?_;(rfl)))
end Go.Ab
/- Chapter 07:model.Valid,walked over whatever contract universe.Full has at the specification's fields. -/
namespace Go.Ab
open Go Go.Proofs
set_option maxRecDepth 20000
set_option maxHeartbeats 16000000
attribute [local irreducible] AW a_ fT ff AR fh e6 fp fA
theorem AA {top:Int}:∀{l:List Int} {last:Int},last<top→qy top last l=true→(l.length:Int)<top - last
 |[],last,h,_=>by simp;omega
 |t::l,last,_,h=>by
  unfold qy at h
  rw[aW,decide_eq_true_eq] at h
  have:=AA h.1.2 h.2
  simp only[cb]
  push_cast
  omega
theorem pg {n:Int} {r:jc} (h:kJ n r=true):r.2.length≤1728:=by
 unfold kJ at h
 rw[aW,decide_eq_true_eq] at h
 obtain⟨⟨h1,h2,h3,h4⟩,h5⟩:=h
 have hb:n ^ r.1.toNat≤1728∧0≤n ^ r.1.toNat:=by
  obtain⟨k,rfl⟩:∃k:Nat,n=k:=⟨n.toNat,by omega⟩
  have hk:k≤12:=by omega
  have he:r.1.toNat≤3:=by omega
  generalize r.1.toNat=e at he
  have h6:k ^ e≤12 ^ 3:=aN (Nat.pow_le_pow_left hk e) (Nat.pow_le_pow_right aG he)
  rw[← Int.natCast_pow]
  constructor
  ·exact_mod_cast h6
  ·omega
 by_cases h7:(-1:Int)<n ^ r.1.toNat
 ·have:=AA h7 h5
  omega
 ·omega
def Dm (n:Int) (full:List Int→jc) (f:gx) (r r0:jc):Bool:=decide (r.1=f.sorts.length) && (kJ n r && (nW r.2 (full f.sorts).2 && (f.var||decide (r=r0))))
def nM (n:Int) (full:List Int→jc):List gx→List jc→List jc→Bool
 |f::fs,r::s,r0::s0=>Dm n full f r r0 && nM n full fs s s0
 |_,_,_=>true
theorem C4 {n:Int} {full:List Int→jc} {fs:List gx} {s s0:List jc} {k:Nat} (h1:k<fs.length) (h2:k<s.length) (h3:k<s0.length):
  nM n full (fs.drop k) (s.drop k) (s0.drop k)=(Dm n full fs[k] s[k] s0[k] && nM n full (fs.drop (k+1)) (s.drop (k+1)) (s0.drop (k+1))):=by
 rw[dY h1,dY h2,dY h3];rfl
def sG (n:Int) (full:List Int→jc) (fs:List gx) (s0 s:List jc):Bool:=decide (s.length=fs.length) && nM n full fs s s0
def kq (k:Nat) (l:List gx):Bool:=l.all fun f=>jT k f.sorts
theorem tz {k:Nat} {l:List gx} {j:Nat} (hj:j<l.length):kq k (l.drop j)=(jT k l[j].sorts && kq k (l.drop (j+1))):=by
 rw[dY hj];rfl
def pP (n:Int) (full:List Int→jc) (fs:List gx) (s0:List jc) (l:List (List jc)):Bool:=l.all (sG n full fs s0)
theorem BO {n:Int} {full:List Int→jc} {fs:List gx} {s0:List jc} {l:List (List jc)} {j:Nat} (hj:j<l.length):pP n full fs s0 (l.drop j)=(sG n full fs s0 l[j] && pP n full fs s0 (l.drop (j+1))):=by
 rw[dY hj];rfl
def Bi (m:uf):Bool:=decide ((m.states.length:Int)=m.steps∧0≤m.loop∧m.loop<m.states.length)
def ye (full:List Int→jc) (s:gu) (m:uf):Bool:=
 lB s.sorts.length m.atoms m.steps && (Bi m && (kq s.sorts.length s.fields && pP m.atoms.sum full s.fields (m.states.headD []) m.states))
theorem tP {k:Nat} {at':List Int} {st:Int} (h:lB k at' st=true):k≤4∧at'.length=k∧1≤st∧st≤4∧kn at'=true∧at'.sum≤12∧sr at':=by
 unfold lB at h
 simp only[aW,decide_eq_true_eq] at h
 obtain⟨⟨⟨h1,h2,h3,h4⟩,h5⟩,h6⟩:=h
 exact⟨h1,h2,h3,h4,h5,h6,p8 h5 aG⟩
theorem Mt (full:List Int→jc) (s:gu) (m:uf) (G8:s.fields.length≤1000)
  (G1:lB s.sorts.length m.atoms m.steps=true→∀f∈s.fields,jT s.sorts.length f.sorts=true→(full f.sorts).2.length≤1000000∧Fn Tryz.prog 65 [pI m.atoms m.steps,.pv (ints f.sorts)] (mA (full f.sorts))):
  Fn Tryz.prog 22 [De s,GQ m] (fe (ye full s m)):=by
 obtain⟨so,fs,p,q⟩:=s
 obtain⟨at',st,ss,lp⟩:=m
 simp only at G8 G1 ⊢
 unfold ye
 simp only
 have hu:=I6 ⟨so,fs,p,q⟩ at' st
 simp only at hu
 cases S3:lB so.length at' st with
 |false=>
  rw[S3] at hu
  rw[du]
  refine Fn.enter (n:=119) Tryz.func22 rfl rfl rfl rfl rfl (by decide) fun g fu fw=>?_;(try refine nz ?_)
  (refine RM ?_;(with_reducible apply a_.fU);(iterate 3 exact rfl);(repeat' first|exact Sub.nil|apply Sub.take|apply Sub.skip);(iterate 3 exact rfl);refine a_.call (hu) (.cons rfl (.ia (.cons (.pv _) (.cons (.pv _) (.cons (.pv _) (.cons (.pv _) .nil))))) (.cons rfl (.ia (.cons (.pv _) (.cons (.pv _) .nil))) .nil)) rfl rfl (fun h_=>by cases h_) ?_;refine ze ?_;(iterate 7 refine a_.iP rfl rfl rfl rfl rfl rfl rfl ?_);refine qh ?_;refine KK ?_;refine qh ?_;refine Lc ?_;refine MR ?_)
  (apply c_;(exact fZ.one (.tmp rfl rfl));(refine Le.fe ?_;(rfl)))
 |true=>
 rw[S3] at hu
 rw[dt]
 have G1:=G1 S3
 obtain⟨mL,jj,hs3,hs4,hs5,hs6,yB⟩:=tP S3
 clear S3
 have Tm:=yB.take at'.length
 rw[dF] at Tm
 have ha:=qS at' st yB
 generalize hn:at'.sum=n at ha hs6 Tm ⊢
 by_cases h1:(ss.length:Int)=st∧0≤lp∧lp<ss.length
 ·have e1:Bi ⟨at',st,ss,lp⟩=true:=decide_eq_true h1
  obtain⟨wD,Jq,Xg⟩:=h1
  rw[e1,dt]
  clear e1
  refine Fn.enter (n:=119) Tryz.func22 rfl rfl rfl rfl rfl (by decide) fun g fu fw=>?_;(try refine nz ?_)
  (refine RM ?_;(with_reducible apply a_.fU);(iterate 3 exact rfl);(repeat' first|exact Sub.nil|apply Sub.take|apply Sub.skip);(iterate 3 exact rfl);refine a_.call (hu) (.cons rfl (.ia (.cons (.pv _) (.cons (.pv _) (.cons (.pv _) (.cons (.pv _) .nil))))) (.cons rfl (.ia (.cons (.pv _) (.cons (.pv _) .nil))) .nil)) rfl rfl (fun h_=>by cases h_) ?_;refine Uj ?_;refine mW ?_;refine a_.b_ 61 2 3 rfl rfl rfl rfl ?_;refine x9 ?_;refine zs ?_;refine zF ?_;refine mW ?_;refine a_.b_ 61 2 3 rfl rfl rfl rfl ?_;refine x9 ?_;refine a_.b_ 61 1 2 rfl rfl rfl rfl ?_;refine x9 ?_;refine zn ?_;refine vV ?_;refine qZ ?_;refine a_.b_ 61 0 0 rfl rfl rfl rfl ?_;(with_reducible apply a_.fU);(iterate 3 exact rfl);(repeat' first|exact Sub.nil|apply Sub.take|apply Sub.skip);(iterate 3 exact rfl);refine a_.call (ha) (.cons rfl (.ia (.cons (.pv _) (.cons (.pv _) .nil))) .nil) rfl rfl (fun h_=>by cases h_) ?_;refine vz ?_;refine J4 ?_;refine uj ?_)
  refine AW.loop (fun(k:Nat)=>{n:=119,env:=[(2,.ptr 0 0),(3,.ptr 1 0),(5,eU n),(44,.pv (.slice 3 (fs.map qj))),(45,eU fs.length),(46,eU k)],fY:=[(0,some (.box [.pv (.slice 2 (so.map mT)),.pv (.slice 3 (fs.map qj)),vO p,vO q])),(1,some (.box [.pv (ints at'),eU st,.pv (yL ss),eU lp]))],nx:=2}) (fun k=>k≤fs.length∧kq so.length fs=kq so.length (fs.drop k)∧∀i (h:i<k) (h':i<fs.length),jT so.length fs[i].sorts=true) (fun k=>fs.length - k) 0 ?_ ?_ ?_
  ·exact⟨bg _,rfl,fun i h=>absurd h (Nat.not_lt_zero _)⟩
  ·exact Yr
  rintro k ⟨hk,he,pC⟩
  by_cases ft:k<fs.length
  ·rw[tz ft] at he
   have hc:=EN ⟨so,fs,p,q⟩ fs[k]
   simp only at hc
   cases h2:jT so.length fs[k].sorts with
   |true=>
    rw[h2] at hc
    rw[h2,dt] at he
    (refine rN ?_;refine ay ?_;refine Jp ?_;refine zq ?_;(iterate 2 refine j4 ?_);refine a_.call (hc) (.cons rfl (.ia (.cons (.pv _) (.cons (.pv _) (.cons (.pv _) (.cons (.pv _) .nil))))) (.cons rfl (.ia (.cons (.pv _) (.cons (.pv _) (.cons (.pv _) .nil)))) .nil)) rfl rfl (fun h_=>by cases h_) ?_;refine v7 ?_)
    exact⟨k+1,⟨by omega,he,fun i hi h'=>by rcases ew (ey hi) with h|rfl;exact pC i h h';exact h2⟩,by omega,e_ rfl (by(first|(refine aA ?_;exact Lv)|(refine aA ?_;(iterate 5 refine aA ?_);exact trivial))) (by(refine OU ?_;refine⟨.box _ rfl ?_,?_⟩;(iterate 4 refine aA ?_);(iterate 2 exact trivial))) rfl⟩
   |false=>
    rw[h2] at hc
    rw[h2,du] at he
    rw[he,du]
    (refine rN ?_;refine ay ?_;refine Jp ?_;refine zq ?_;(iterate 2 refine j4 ?_);refine a_.call (hc) (.cons rfl (.ia (.cons (.pv _) (.cons (.pv _) (.cons (.pv _) (.cons (.pv _) .nil))))) (.cons rfl (.ia (.cons (.pv _) (.cons (.pv _) (.cons (.pv _) .nil)))) .nil)) rfl rfl (fun h_=>by cases h_) ?_;refine a_.not rfl rfl rfl ?_;refine tn ?_;refine oC ?_)
    (apply c_;(exact fZ.one (.tmp rfl rfl));(refine Le.fe ?_;(rfl)))
  ·obtain rfl:k=fs.length:=by omega
   rw[dZ] at he
   have he:kq so.length fs=true:=he
   rw[he,dt]
   clear he
   have hc:∀i (h':i<fs.length),jT so.length fs[i].sorts=true:=fun i h'=>pC i h' h'
   (refine BW ?_;refine Q7 ?_;refine rX ?_;refine a_.b_ 61 1 2 rfl rfl rfl rfl ?_;refine zb ?_;refine uj ?_)
   have YA:0<ss.length:=by omega
   have e0:ss.headD []=ss[eo 0]'(by show 0<_;omega):=by cases ss with|nil=>simp at YA|cons a l=>rfl
   rw[e0]
   refine AW.loop (fun(j:Nat)=>{n:=119,env:=[(2,.ptr 0 0),(3,.ptr 1 0),(5,eU n),(56,.pv (yL ss)),(57,eU ss.length),(58,eU j)],fY:=[(0,some (.box [.pv (.slice 2 (so.map mT)),.pv (.slice 3 (fs.map qj)),vO p,vO q])),(1,some (.box [.pv (ints at'),eU st,.pv (yL ss),eU lp]))],nx:=2}) (fun j=>j≤ss.length∧pP n full fs (ss[eo 0]'(by show 0<_;omega)) ss=pP n full fs (ss[eo 0]'(by show 0<_;omega)) (ss.drop j)∧(0<j→(ss[eo 0]'(by show 0<_;omega)).length=fs.length)) (fun j=>ss.length - j) 0 ?_ ?_ ?_
   ·exact⟨bg _,rfl,fun h=>absurd h aG⟩
   ·exact Yr
   rintro j ⟨hj,he,DY⟩
   by_cases gM:j<ss.length
   ·rw[BO gM] at he
    by_cases Fq:ss[j].length=fs.length
    ·have DY:(ss[eo 0]'(by show 0<_;omega)).length=fs.length:=by
      by_cases TG:0<j
      ·exact DY TG
      ·obtain rfl:j=0:=by omega
       exact Fq
     have es:sG n full fs (ss[eo 0]'(by show 0<_;omega)) ss[j]=nM n full fs ss[j] (ss[eo 0]'(by show 0<_;omega)):=by unfold sG;rw[decide_eq_true Fq,dt]
     rw[es] at he
     (refine rN ?_;refine ay ?_;refine zr ?_;refine lM ?_;refine zn ?_;refine J4 ?_;refine El ?_;refine qZ ?_;refine J4 ?_;refine uj ?_)
     refine AW.loop (fun(i:Nat)=>{n:=119,env:=[(2,.ptr 0 0),(3,.ptr 1 0),(5,eU n),(9,.pv (Bc ss[j])),(56,.pv (yL ss)),(57,eU ss.length),(58,eU j),(69,.pv (.slice 3 (fs.map qj))),(70,eU fs.length),(71,eU i)],fY:=[(0,some (.box [.pv (.slice 2 (so.map mT)),.pv (.slice 3 (fs.map qj)),vO p,vO q])),(1,some (.box [.pv (ints at'),eU st,.pv (yL ss),eU lp]))],nx:=2}) (fun i=>i≤fs.length∧nM n full fs ss[j] (ss[eo 0]'(by show 0<_;omega))=nM n full (fs.drop i) (ss[j].drop i) ((ss[eo 0]'(by show 0<_;omega)).drop i)) (fun i=>fs.length - i) 0 ?_ ?_ ?_
     ·exact⟨bg _,rfl⟩
     ·exact Yr
     rintro i ⟨hi,sQ⟩
     by_cases BD:i<fs.length
     ·rw[C4 BD aG aG] at sQ
      have T5:=G1 _ (cT BD) (hc i BD)
      have X0:i<ss[j].length:=by omega
      have Zw:i<(ss[eo 0]'(by show 0<_;omega)).length:=by omega
      have hlt6:i<(ss[0]'(by omega)).length:=Zw
      have Wc:=Cc n ss[j][i]
      unfold Dm at sQ
      by_cases h2:(ss[j][i]).1=fs[i].sorts.length
      ·rw[decide_eq_true h2,dt] at sQ
       cases h3:kJ n ss[j][i] with
       |false=>
        rw[h3] at Wc sQ
        rw[du,du] at sQ
        rw[sQ,du] at he
        (refine nR ?_;refine ay ?_;refine Il ?_;refine ay ?_;refine Jp ?_;(iterate 2 refine zo ?_);refine FO ?_;refine E6 ?_;refine Es ?_;refine El ?_;refine nS ?_;refine j4 ?_;refine zy ?_;refine a_.call (Wc) (.cons rfl (.pv _) (.cons rfl (.ia (.cons (.pv _) (.cons (.pv _) .nil))) .nil)) rfl rfl (fun h_=>by cases h_) ?_;refine ES ?_;refine zm ?_;(iterate 8 refine a_.iP rfl rfl rfl rfl rfl rfl rfl ?_);refine MR ?_;refine Ty ?_)
        (apply c_;(exact fZ.one (.tmp rfl rfl));(refine Le.fe ?_;(exact he.symm)))
       |true=>
        rw[h3] at Wc sQ
        rw[dt] at sQ
        have nf:=Uk (ss[j][i]).1 (ss[j][i]).2 (full fs[i].sorts).1 (full fs[i].sorts).2 (by have:=pg h3;omega) T5.1
        have T5:=T5.2
        cases h4:nW ss[j][i].2 (full fs[i].sorts).2 with
        |false=>
         rw[h4] at nf sQ
         rw[du,du] at sQ
         rw[sQ,du] at he
         (refine nR ?_;refine ay ?_;refine Il ?_;refine ay ?_;refine Jp ?_;(iterate 2 refine zo ?_))
         refine AW.tY [0,1,2,3,4,5,6,7,8] [19] rfl (by assumption) aF rfl ?_
         show a_ .held _ _ _ [_,_,_,_,_,_,_,_,_] _ _
         (refine E6 ?_;refine Es ?_;refine El ?_;refine nS ?_;refine j4 ?_;refine Q3 ?_)
         intro k_ jA
         (try refine nz ?_)
         refine AR.mG (i:=9) rfl aF rfl ?_
         intro g_ eV hG
         (refine zy ?_;refine a_.call (Wc) (.cons rfl (.pv _) (.cons rfl (.ia (.cons (.pv _) (.cons (.pv _) .nil))) .nil)) rfl rfl (fun h_=>by cases h_) ?_;refine Q3 ?_)
         refine AR.mG (i:=10) rfl aF rfl ?_
         intro g_ eV hG
         (refine zy ?_;refine a_.not rfl rfl rfl ?_;refine Q3 ?_)
         refine AR.mG (i:=11) rfl aF rfl ?_
         intro g_ eV hG
         (refine zF ?_;refine Q3 ?_)
         refine AR.mG (i:=12) rfl aF rfl ?_
         intro g_ eV hG
         (refine zm ?_;refine Q3 ?_)
         refine AR.reads [13,14,16,15,17] aF aF aF ?_
         intro g_ eV
         show a_ .held _ _ _ [_,_,_,_,_] _ _
         (refine tQ ?_;refine zl ?_;refine a_.b_ 61 0 0 rfl rfl rfl rfl ?_;refine zl ?_;refine a_.b_ 71 1 1 rfl rfl rfl rfl ?_;refine zl ?_;(with_reducible apply a_.fU);(iterate 3 exact rfl);(repeat' first|exact Sub.nil|apply Sub.take|apply Sub.skip);(iterate 3 exact rfl);refine zl ?_;refine zb ?_;refine Q3 ?_)
         intro k_ jA
         (try refine nz ?_)
         refine AR.mG (i:=18) rfl aF rfl ?_
         intro g_ eV hG
         (refine zl ?_;refine a_.F1 (T5) (.cons rfl (.ia (.cons (.pv _) (.cons (.pv _) .nil))) (.cons rfl (.pv _) .nil)) rfl ?_;refine Q3 ?_)
         refine AR.nC (i:=19) rfl aF rfl aF ?_
         intro g_ eV fz
         (refine zl ?_;refine a_.call (nf) (.cons rfl (.ia (.cons (.pv _) (.cons (.pv _) .nil))) (.cons rfl (.ia (.cons (.pv _) (.cons (.pv _) .nil))) .nil)) rfl rfl (fun h_=>by cases h_) ?_;refine Q3 ?_)
         refine AR.nC (i:=20) rfl aF rfl aF ?_
         intro g_ eV fz
         (refine CY ?_;refine Q3 ?_)
         refine AR.nC (i:=21) rfl aF rfl aF ?_
         intro g_ eV fz
         (refine a_.jk rfl rfl rfl rfl rfl rfl ?_;refine Q3 ?_)
         refine AR.done (by assumption) aF ?_
         (refine gr ?_;refine AW.qb rfl rfl ?_;refine Q5 ?_;refine Dl ?_;refine Ty ?_)
         (apply c_;(exact fZ.one (.tmp rfl rfl));(refine Le.fe ?_;(exact he.symm)))
        |true=>
         rw[h4] at nf sQ
         rw[dt] at sQ
         (refine nR ?_;refine ay ?_;refine Il ?_;refine ay ?_;refine Jp ?_;(iterate 2 refine zo ?_))
         refine AW.tY [0,1,2,3,4,5,6,7,8] [19] rfl (by assumption) aF rfl ?_
         show a_ .held _ _ _ [_,_,_,_,_,_,_,_,_] _ _
         (refine E6 ?_;refine Es ?_;refine El ?_;refine nS ?_;refine j4 ?_;refine Q3 ?_)
         intro k_ jA
         (try refine nz ?_)
         refine AR.mG (i:=9) rfl aF rfl ?_
         intro g_ eV hG
         (refine zy ?_;refine a_.call (Wc) (.cons rfl (.pv _) (.cons rfl (.ia (.cons (.pv _) (.cons (.pv _) .nil))) .nil)) rfl rfl (fun h_=>by cases h_) ?_;refine Q3 ?_)
         refine AR.mG (i:=10) rfl aF rfl ?_
         intro g_ eV hG
         (refine zy ?_;refine a_.not rfl rfl rfl ?_;refine Q3 ?_)
         refine AR.mG (i:=11) rfl aF rfl ?_
         intro g_ eV hG
         (refine zF ?_;refine Q3 ?_)
         refine AR.mG (i:=12) rfl aF rfl ?_
         intro g_ eV hG
         (refine zm ?_;refine Q3 ?_)
         refine AR.reads [13,14,16,15,17] aF aF aF ?_
         intro g_ eV
         show a_ .held _ _ _ [_,_,_,_,_] _ _
         (refine tQ ?_;refine zl ?_;refine a_.b_ 61 0 0 rfl rfl rfl rfl ?_;refine zl ?_;refine a_.b_ 71 1 1 rfl rfl rfl rfl ?_;refine zl ?_;(with_reducible apply a_.fU);(iterate 3 exact rfl);(repeat' first|exact Sub.nil|apply Sub.take|apply Sub.skip);(iterate 3 exact rfl);refine zl ?_;refine zb ?_;refine Q3 ?_)
         intro k_ jA
         (try refine nz ?_)
         refine AR.mG (i:=18) rfl aF rfl ?_
         intro g_ eV hG
         (refine zl ?_;refine a_.F1 (T5) (.cons rfl (.ia (.cons (.pv _) (.cons (.pv _) .nil))) (.cons rfl (.pv _) .nil)) rfl ?_;refine Q3 ?_)
         refine AR.nC (i:=19) rfl aF rfl aF ?_
         intro g_ eV fz
         (refine zl ?_;refine a_.call (nf) (.cons rfl (.ia (.cons (.pv _) (.cons (.pv _) .nil))) (.cons rfl (.ia (.cons (.pv _) (.cons (.pv _) .nil))) .nil)) rfl rfl (fun h_=>by cases h_) ?_;refine Q3 ?_)
         refine AR.nC (i:=20) rfl aF rfl aF ?_
         intro g_ eV fz
         (refine CY ?_;refine Q3 ?_)
         refine AR.nC (i:=21) rfl aF rfl aF ?_
         intro g_ eV fz
         (refine a_.jk rfl rfl rfl rfl rfl rfl ?_;refine Q3 ?_)
         refine AR.done (by assumption) aF ?_
         (refine gr ?_;refine WR ?_;refine gr ?_;refine zo ?_)
         have heq:=vL ss[j][i] ((ss[eo 0]'(by show 0<_;omega))[i])
         cases hv:fs[i].var with
         |true=>
          rw[hv,Bool.true_or,dt] at sQ
          have Qi:(!fs[i].var)=false:=by rw[hv];rfl
          (refine FO ?_;refine a_.b_ 71 2 2 rfl rfl rfl rfl ?_;refine zb ?_;refine ze ?_;(iterate 10 refine a_.iP rfl rfl rfl rfl rfl (by assumption) rfl ?_);refine Sf ?_;refine vT ?_)
          exact Wp
         |false=>
          rw[hv,Bool.false_or] at sQ
          have Qi:(!fs[i].var)=true:=by rw[hv];rfl
          by_cases h6:ss[j][i]=((ss[eo 0]'(by show 0<_;omega))[i])
          ·rw[decide_eq_true h6] at heq sQ
           rw[dt] at sQ
           (refine Vw ?_;refine ay ?_;refine Ps ?_;refine ay ?_;refine vy ?_;refine uF ?_;refine vy ?_;refine a_.call (heq) (.cons rfl (.ia (.cons (.pv _) (.cons (.pv _) .nil))) (.cons rfl (.ia (.cons (.pv _) (.cons (.pv _) .nil))) .nil)) rfl rfl (fun h_=>by cases h_) ?_;refine Pe ?_;refine mC ?_;refine vT ?_)
           exact Wp
          ·rw[decide_eq_false h6] at heq sQ
           rw[du] at sQ
           rw[sQ,du] at he
           (refine Vw ?_;refine ay ?_;refine Ps ?_;refine ay ?_;refine vy ?_;refine uF ?_;refine vy ?_;refine a_.call (heq) (.cons rfl (.ia (.cons (.pv _) (.cons (.pv _) .nil))) (.cons rfl (.ia (.cons (.pv _) (.cons (.pv _) .nil))) .nil)) rfl rfl (fun h_=>by cases h_) ?_;refine Pe ?_;refine tn ?_;refine j7 ?_;refine Ty ?_)
           (apply c_;(exact fZ.one (.tmp rfl rfl));(refine Le.fe ?_;(exact he.symm)))
      ·rw[decide_eq_false h2,du,du] at sQ
       rw[sQ,du] at he
       (refine nR ?_;refine ay ?_;refine Il ?_;refine ay ?_;refine Jp ?_;(iterate 2 refine zo ?_);refine FO ?_;refine E6 ?_;refine Es ?_;refine El ?_;refine zm ?_;refine SN ?_;refine zm ?_;(iterate 8 refine a_.iP rfl rfl rfl rfl rfl rfl rfl ?_);refine MR ?_;refine Ty ?_)
       (apply c_;(exact fZ.one (.tmp rfl rfl));(refine Le.fe ?_;(exact he.symm)))
     ·obtain rfl:i=fs.length:=by omega
      rw[dZ] at sQ
      have sQ:nM n full fs ss[j] (ss[eo 0]'(by show 0<_;omega))=true:=sQ
      rw[sQ,dt] at he
      (refine BW ?_;refine Q7 ?_;refine vT ?_)
      exact⟨j+1,⟨by omega,he,fun _=>DY⟩,by omega,e_ rfl (by(first|(refine aA ?_;exact Lv)|(refine aA ?_;(iterate 5 refine aA ?_);exact trivial))) (by(refine OU ?_;refine⟨.box _ rfl ?_,?_⟩;(iterate 4 refine aA ?_);(iterate 2 exact trivial))) rfl⟩
    ·have es:sG n full fs (ss[eo 0]'(by show 0<_;omega)) ss[j]=false:=by unfold sG;rw[decide_eq_false Fq,du]
     rw[es,du] at he
     (refine rN ?_;refine ay ?_;refine zr ?_;refine lM ?_;refine zn ?_;refine J4 ?_;refine El ?_;refine sK ?_;refine JA ?_)
     all_goals (apply c_;(exact fZ.one (.tmp rfl rfl));(refine Le.fe ?_;(exact he.symm)))
   ·obtain rfl:j=ss.length:=by omega
    rw[dZ] at he
    have he:pP n full fs (ss[eo 0]'(by show 0<_;omega)) ss=true:=he
    rw[he]
    (refine og ?_;refine j7 ?_)
    (apply c_;(exact fZ.one (.tmp rfl rfl));(refine Le.fe ?_;(rfl)))
 ·have e1:Bi ⟨at',st,ss,lp⟩=false:=decide_eq_false h1
  rw[e1,du]
  refine Fn.enter (n:=119) Tryz.func22 rfl rfl rfl rfl rfl (by decide) fun g fu fw=>?_;(try refine nz ?_)
  (refine RM ?_;(with_reducible apply a_.fU);(iterate 3 exact rfl);(repeat' first|exact Sub.nil|apply Sub.take|apply Sub.skip);(iterate 3 exact rfl);refine a_.call (hu) (.cons rfl (.ia (.cons (.pv _) (.cons (.pv _) (.cons (.pv _) (.cons (.pv _) .nil))))) (.cons rfl (.ia (.cons (.pv _) (.cons (.pv _) .nil))) .nil)) rfl rfl (fun h_=>by cases h_) ?_;refine Uj ?_;refine zm ?_;(focus ((with_reducible apply a_.kV);(iterate 6 exact rfl);all_goals intro qp));refine a_.b_ 61 2 3 rfl rfl rfl rfl ?_;refine x9 ?_;refine zs ?_;refine zF ?_;refine zm ?_;(focus ((with_reducible apply a_.kV);(iterate 6 exact rfl);all_goals intro qp));refine a_.b_ 61 2 3 rfl rfl rfl rfl ?_;refine x9 ?_;refine a_.b_ 61 1 2 rfl rfl rfl rfl ?_;refine x9 ?_;refine zn ?_;refine vV ?_;refine sK ?_;(all_goals skip);rotate_left;refine Rq ?_;(all_goals skip);rotate_left;refine Ie ?_;refine zm ?_;refine Lc ?_;refine MR ?_;(all_goals skip);rotate_left)
  all_goals (apply c_;(exact fZ.one (.tmp rfl rfl));(refine Le.fe ?_;(rfl)))
end Go.Ab
/- Chapter 07's reference:sorts of atoms,columns,well-formed models. -/
namespace Go.Ab
open Go Go.Proofs
open Nat (reduceAdd reduceSub)
set_option maxRecDepth 20000
set_option maxHeartbeats 8000000
def iv:List Int→Int→Int→Int
 |[],_,_=> -1
 |a::l,x,i=>if x<a then i else iv l (x - a) (i+1)
theorem yh {l:List Int} {x i:Int} {j:Nat} (hj:j<l.length):iv (l.drop j) x i=if x<l[j] then i else iv (l.drop (j+1)) (x - l[j]) (i+1):=by
 rw[dY hj];rfl
attribute [local irreducible] AW a_ fT ff AR fh e6 fp fA
theorem LX (at':List Int) (st x:Int) (h:sr at') (hx: -9223372036854775808≤x∧x≤9223372036854775807):Fn Tryz.prog 120 [pI at' st,eU x] (eU (iv at' x 0)):=by
 have hle:=h.1
 refine Fn.enter (n:=28) Tryz.func120 rfl rfl rfl rfl rfl (by decide) fun g fu fw=>?_;(try refine nz ?_)
 (refine lV ?_;refine mw ?_)
 (refine nz ?_;apply AW.fO [2] [0] (fun s:Nat×Int=>([(5,eU s.1),(1,eU s.2)]:List (Nat×AV))) (fun s:Nat×Int=>([]:List (Nat×Option Ob))) (fun s:Nat×Int=>s.1≤at'.length∧ -9223372036854775808≤s.2∧s.2≤9223372036854775807∧iv at' x 0=iv (at'.drop s.1) s.2 s.1) (fun s:Nat×Int=>at'.length - s.1) ((0,x));(conv=>lhs;simp only[Nf.jI,Nf.all,c6,reduceAdd,reduceSub]);(all_goals skip))
 ·exact⟨bg _,hx.1,hx.2,rfl⟩
 ·exact W4
 rintro⟨j,y⟩ ⟨hj,h1,h2,he⟩
 simp only at hj h1 h2 he ⊢
 by_cases ft:j<at'.length
 ·have hz:=h.2 _ (cT ft)
  rw[yh ft] at he
  by_cases hc:y<at'[j]
  ·rw[if_pos hc] at he
   (refine IA ?_;refine A3 ?_;refine ay ?_;refine uT ?_;refine nD ?_;refine zm ?_;refine Dl ?_;refine JA ?_)
   (apply c_;(exact fZ.one (.tmp rfl rfl));(refine Le.eU ?_;(exact he.symm)))
  ·rw[if_neg hc] at he
   (refine IA ?_;refine A3 ?_;refine ay ?_;refine uT ?_;refine B1 ?_;refine qC ?_;refine A3 ?_;refine ay ?_;refine zr ?_;refine a_.sub rfl rfl rfl rfl rfl aG ?_;refine uC ?_;refine uk ?_)
   exact U9
 ·rw[dI aG] at he
  (refine yp ?_;refine rY ?_;refine j7 ?_)
  (apply c_;(exact fZ.one (.tmp rfl rfl));(refine Le.eU ?_;(exact he.symm)))
def w5 (at':List Int) (n:Int):List Int→Int→Bool
 |[],_=>true
 |s::ss,r=>decide (iv at' (r % n) 0=s) && w5 at' n ss (r / n)
end Go.Ab
/- Chapter 05 and 07:all tuples over columns;the two tests for a well-formed model are one. -/
namespace Go.Ab
open Go Go.Proofs
set_option maxRecDepth 20000
set_option maxHeartbeats 2000000
def wj (at':List Int) (l:List Int):List (Int×Nat):=l.map fun s=>((at'.take s.toNat).sum,(at'.getD s.toNat 0).toNat)
def lH (at':List Int) (l:List Int):jc:=((l.length:Int),sS at'.sum 0 (wj at' l))
theorem Mj (n f:Int) (z:Nat):rR f z=sS n 0 [(f,z)]:=by
 rw[gf]
 induction z with
 |zero=>rfl
 |succ z ih=>
  rw[Aq,me,ih,f_]
  congr 2
  omega
theorem wE {k:Nat} {l:List Int} (h:xz k l=true):∀s∈l,0≤s∧s<k:=by
 unfold xz at h
 rw[List.all_eq_true] at h
 intro s hs
 simpa using h s hs
theorem kT {at':List Int} {k:Nat} (h:k<at'.length):at'.getD k 0=at'[k]:=by rw[List.getD_eq_getElem?_getD,List.getElem?_eq_getElem h];rfl
theorem Oz (at':List Int) (st:Int) (l:List Int) (hc:jT at'.length l=true) (h:sr at') (yB:at'.sum≤1000):Fn Tryz.prog 65 [pI at' st,.pv (ints l)] (mA (lH at' l)):=by
 unfold jT at hc
 rw[aW,decide_eq_true_eq] at hc
 have nf:=wE hc.2
 have ot:∀s:Int,s∈l→∃x:Nat,s=(x:Int)∧x<at'.length:=fun s hs=>⟨s.toNat,by have:=nf s hs;omega,by have:=nf s hs;omega⟩
 unfold lH
 match l,hc,ot with
 |[],hc,_=>simp at hc
 |[a],_,ot=>
  obtain⟨x,rfl,hx⟩:=ot a (by simp)
  have:=JO at' st [(x:Int)] rfl x rfl hx h
  rw[Mj at'.sum] at this
  simp only[wj,bz,bY,dg,kT hx]
  exact this
 |[a,b],_,ot=>
  obtain⟨x,rfl,hx⟩:=ot a (by simp)
  obtain⟨y,rfl,hy⟩:=ot b (by simp)
  have:=Mw at' st [(x:Int),(y:Int)] rfl x y rfl rfl hx hy h yB
  simp only[wj,bz,bY,dg,kT hx,kT hy]
  exact this
 |[a,b,c],_,ot=>
  obtain⟨x,rfl,hx⟩:=ot a (by simp)
  obtain⟨y,rfl,hy⟩:=ot b (by simp)
  obtain⟨v,rfl,hv⟩:=ot c (by simp)
  have:=Kb at' st [(x:Int),(y:Int),(v:Int)] rfl x y v rfl rfl rfl hx hy hv h yB
  simp only[wj,bz,bY,dg,kT hx,kT hy,kT hv]
  exact this
 |a::b::c::d::r,hc,_=>simp at hc
theorem qY:∀{l:List Int},(∀x∈l,0≤x)→0≤l.sum
 |[],_=>by simp
 |a::l,h=>by
  have:=qY (l:=l) fun x hx=>h x (by simp [hx])
  have:=h a (by simp)
  simp;omega
theorem Mq {l:List Int}:∀{x i:Int},0≤i→iv l x i= -1∨i≤iv l x i:=by
 induction l with
 |nil=>intro x i _;exact .inl rfl
 |cons a l ih=>
  intro x i hi
  unfold iv
  split
  ·right;omega
  ·rcases ih (x:=x - a) (i:=i+1) aG with h|h
   ·exact .inl h
   ·right;omega
theorem AG {l:List Int}:∀{x i:Int} {k:Nat},(∀y∈l,0≤y)→0≤x→0≤i→k<l.length→(iv l x i=i+k↔(l.take k).sum≤x∧x<(l.take k).sum+l.getD k 0):=by
 induction l with
 |nil=>intro x i k _ _ _ hk;simp at hk
 |cons a l ih=>
  intro x i k hp hx hi hk
  unfold iv
  have ha:=hp a (by simp)
  have sB:∀y∈l,0≤y:=fun y hy=>hp y (by simp [hy])
  cases k with
  |zero=>
   simp only[dK,List.sum_nil,List.getD_cons_zero]
   by_cases hc:x<a
   ·rw[if_pos hc];simp;omega
   ·rw[if_neg hc]
    constructor
    ·intro h
     rcases Mq (l:=l) (x:=x - a) (i:=i+1) aG with h2|h2<;>omega
    ·omega
  |succ k=>
   simp only[List.take_succ_cons,ez,List.getD_cons_succ]
   have jN:k<l.length:=by simpa using hk
   by_cases hc:x<a
   ·rw[if_pos hc]
    have h2:0≤(l.take k).sum:=qY fun y hy=>sB y (c7 hy)
    constructor
    ·intro h;push_cast at h;omega
    ·omega
   ·rw[if_neg hc]
    have:=ih (x:=x - a) (i:=i+1) (k:=k) sB aG aG jN
    push_cast
    rw[show i+((k:Int)+1)=i+1+k by omega,this]
    omega
theorem xZ (n:Int):∀(l:List (Int×Nat)) (p f:Int) (z:Nat) (t:Int),t∈sS n p (l++ [(f,z)])↔∃q∈sS n p l,∃i:Nat,i<z∧t=q*n+(f+i)
 |[],p,f,z,t=>by
  simp only[eA,sS,dz,dk,cp,exists_eq_left]
 |(f',z')::l,p,f,z,t=>by
  simp only[List.cons_append,sS,dz,dk]
  constructor
  ·rintro⟨i,hi,h⟩
   obtain⟨q,hq,r⟩:=(xZ n l _ f z t).1 h
   exact⟨q,⟨i,hi,hq⟩,r⟩
  ·rintro⟨q,⟨i,hi,hq⟩,r⟩
   exact⟨i,hi,(xZ n l _ f z t).2 ⟨q,hq,r⟩⟩
theorem Gk {at':List Int} (hp:∀y∈at',0≤y) {k:Nat} (hk:k<at'.length):0≤(at'.take k).sum∧(at'.take k).sum+at'.getD k 0≤at'.sum:=by
 refine⟨qY fun y hy=>hp y (c7 hy),?_⟩
 have e:at'.sum=(at'.take k).sum+(at'.drop k).sum:=by rw[← List.sum_append,eB]
 have h2:(at'.drop k).sum=at'[k]+(at'.drop (k+1)).sum:=by rw[dY hk,ez]
 have h3:0≤(at'.drop (k+1)).sum:=qY fun y hy=>hp y (List.mem_of_mem_drop hy)
 rw[kT hk]
 omega
theorem Cs {at':List Int} (hp:∀y∈at',0≤y):∀(l:List Int),(∀s∈l,0≤s∧s<at'.length)→∀t:Int,(t∈sS at'.sum 0 (wj at' l)↔0≤t∧w5 at' at'.sum l.reverse t=true∧t<at'.sum ^ l.length):=by
 intro l
 generalize hm:l.length=m
 induction m generalizing l with
 |zero=>
  intro _ t
  obtain rfl:=List.eq_nil_of_length_eq_zero hm
  simp [wj,sS,w5]
  omega
 |succ m ih=>
  intro hs t
  obtain⟨l',s,rfl⟩:∃l' s,l=l'++ [s]:=⟨l.dropLast,l.getLast (by intro e;subst e;simp at hm),(List.dropLast_concat_getLast _).symm⟩
  have To:l'.length=m:=by simpa using hm
  have Is:=hs s (by simp)
  have Fq:∀x∈l',0≤x∧x<at'.length:=fun x hx=>hs x (by simp [hx])
  obtain⟨k,rfl⟩:∃k:Nat,s=(k:Int):=⟨s.toNat,by omega⟩
  have hk:k<at'.length:=by omega
  have Xe:=Gk hp hk
  have e1:wj at' (l'++ [(k:Int)])=wj at' l'++ [((at'.take k).sum,(at'.getD k 0).toNat)]:=by simp [wj]
  rw[e1,xZ,List.reverse_append]
  show _↔0≤t∧w5 at' at'.sum ((k:Int)::l'.reverse) t=true∧_
  unfold w5
  rw[aW,decide_eq_true_eq]
  have ih:=ih l' To Fq
  have hzz:0≤at'.getD k 0:=by rw[kT hk];exact hp _ (cT hk)
  by_cases hn:at'.sum=0
  ·constructor
   ·rintro⟨q,_,i,hi,_⟩;omega
   ·rintro⟨h0,_,h⟩
    rw[hn,Int.zero_pow aG] at h
    omega
  have Pq:0<at'.sum:=by omega
  have TP:=AG (l:=at') (x:=t % at'.sum) (i:=0) (k:=k) hp (c9 _ aG) aG hk
  rw[eC] at TP
  rw[TP]
  generalize (at'.take k).sum=f at Xe ⊢
  generalize at'.getD k 0=z at Xe hzz ⊢
  generalize at'.sum=n at*
  have hpw:n ^ (m+1)=n ^ m*n:=eD _ _
  constructor
  ·rintro⟨q,hq,i,hi,rfl⟩
   obtain⟨q0,q1,q2⟩:=(ih q).1 hq
   have hu:=(Int.ediv_emod_unique (a:=q*n+(f+i)) (b:=n) (r:=f+i) (q:=q) Pq).2 ⟨by rw[dA n q];omega,by omega,by omega⟩
   rw[hu.1,hu.2]
   have h1:0≤q*n:=dv q0 (by omega)
   have h2:(q+1)*n≤n ^ m*n:=Int.mul_le_mul_of_nonneg_right aG (by omega)
   rw[Int.add_mul,Int.one_mul] at h2
   exact⟨by omega,⟨⟨by omega,by omega⟩,q1⟩,by rw[hpw];omega⟩
  ·rintro⟨h0,⟨⟨h1,h2⟩,h3⟩,h4⟩
   rw[hpw] at h4
   refine⟨t / n,(ih _).2 ⟨dX h0 aG,h3,Int.ediv_lt_of_lt_mul Pq h4⟩,(t % n - f).toNat,by omega,?_⟩
   have:=Int.mul_ediv_add_emod t n
   rw[dA] at this
   omega
theorem xh {n:Int} {full:List Int→jc}:∀{fs:List gx} {s s0:List jc} (h1:s.length=fs.length) (h2:s0.length=fs.length),nM n full fs s s0=true↔∀j (h:j<fs.length),Dm n full fs[j] (s[j]'(by omega)) (s0[j]'(by omega))=true
 |[],s,s0,_,_=>by
  constructor
  ·intro _ j h;simp at h
  ·intro _;unfold nM;rfl
 |f::fs,[],_,h1,_=>by simp at h1
 |f::fs,_::_,[],_,h2=>by simp at h2
 |f::fs,r::s,r0::s0,h1,h2=>by
  unfold nM
  rw[aW,xh (by simpa using h1) (by simpa using h2)]
  constructor
  ·rintro⟨ha,hb⟩ j hj
   cases j with
   |zero=>exact ha
   |succ j=>exact hb j (by simpa using hj)
  ·intro h
   exact⟨h 0 (by simp),fun j hj=>h (j+1) (by simpa using hj)⟩
end Go.Ab
/- Go's slices.Grow of nothing,slices.Concat;the union of relations. -/
namespace Go.Ab
open Go Go.Proofs
set_option maxRecDepth 20000
set_option maxHeartbeats 4000000
attribute [local irreducible] AW a_ fT ff AR fh e6 fp fA canon j5 q6 UL
end Go.Ab
/- Chapter 06's reference:rising lists,searched and added to. -/
namespace Go.Ab
open Go Go.Proofs
open Nat (reduceAdd reduceSub)
set_option maxRecDepth 20000
set_option maxHeartbeats 4000000
theorem JS {l:List Int} (h:nY l) {i j:Nat} (hi:i<j) (hj:j<l.length):l[i]<l[j]:=List.pairwise_iff_getElem.1 h i j aG hj hi
theorem Ii {l:List Int} (h:nY l) {x:Int} {p:Nat} (h1:∀j (hj:j<l.length),j<p→l[j]<x) (h2:∀j (hj:j<l.length),p≤j→x<l[j]):l.take p++ [x]++l.drop p=canon (l++ [x]):=by
 have m1:∀y∈l.take p,y<x:=by
  intro y hy
  obtain⟨j,hj,rfl⟩:=dc hy
  rw[List.length_take] at hj
  rw[List.getElem_take]
  exact h1 j aG (by omega)
 have m2:∀y∈l.drop p,x<y:=by
  intro y hy
  obtain⟨j,hj,rfl⟩:=dc hy
  rw[List.length_drop] at hj
  rw[er]
  exact h2 (p+j) aG (by omega)
 refine mh ?_ (mc _) fun y=>?_
 ·show List.Pairwise _ _
  rw[eE]
  refine⟨?_,h.sublist (List.drop_sublist p l),fun a ha b hb=>?_⟩
  ·rw[eE]
   exact⟨h.sublist (List.take_sublist p l),by simp,fun a ha b hb=>by simp at hb;subst hb;exact m1 a ha⟩
  ·have:=m2 b hb
   rcases bW.1 ha with ha|ha
   ·have:=m1 a ha;omega
   ·simp at ha;subst ha;exact this
 ·rw[lh]
  have e:y∈l↔y∈l.take p∨y∈l.drop p:=by rw[← bW,eB]
  simp only[bW,e]
  constructor
  ·rintro((h|h)|h)
   ·exact .inl (.inl h)
   ·exact .inr h
   ·exact .inl (.inr h)
  ·rintro((h|h)|h)
   ·exact .inl (.inl h)
   ·exact .inr h
   ·exact .inl (.inr h)
theorem qQ {l:List Int} (h:nY l) {x:Int} (hx:x∈l):canon (l++ [x])=l:=mh (mc _) h fun y=>by
 rw[lh,bW,cp]
 exact⟨fun h'=>h'.elim id (fun e=>e▸hx),.inl⟩
attribute [local irreducible] AW a_ fT ff AR fh e6 fp fA canon
theorem N7 (l:List Int) (x:Int) (hl:l.length≤1000000) (h:nY l):Fn Tryz.prog 137 [.pv (ints l),eU x] (.pv (ints (canon (l++ [x])))):=by
 refine Fn.enter (n:=50) Tryz.func137 rfl rfl rfl rfl rfl (by decide) fun g fu fw=>?_;(try refine nz ?_)
 (refine tX ?_;refine zn ?_;refine Q4 ?_;refine zo ?_;refine AW.block ?_)
 (refine nz ?_;apply AW.fO [4,0,1] [] (fun s:Nat=>([(5,eU s)]:List (Nat×AV))) (fun s:Nat=>([]:List (Nat×Option Ob))) (fun s:Nat=>s≤l.length∧(∀j (h:j<l.length),s≤j→x≤l[j])) (fun s:Nat=>s) (l.length);(conv=>lhs;simp only[Nf.jI,Nf.all,c6,reduceAdd,reduceSub]);(all_goals skip))
 ·exact⟨aM _,fun j h h2=>by omega⟩
 ·exact R2
 rintro p ⟨h1,h2⟩
 have fin:(p=0∨∃h:p - 1<l.length,l[p - 1]<x)→∀j (hj:j<l.length),j<p→l[j]<x:=by
  intro h0 j hj Xo
  rcases h0 with h0|⟨h0,h3⟩
  ·omega
  ·by_cases e:j=p - 1
   ·subst e;exact h3
   ·have:=JS h (i:=j) (j:=p - 1) aG h0
    omega
 have rest:(p=0∨∃h:p - 1<l.length,l[p - 1]<x)→¬(∃h:p<l.length,l[p]=x)→l.take p++ [x]++l.drop p=canon (l++ [x]):=by
  intro h0 gz
  refine Ii h (fin h0) fun j hj Xo=>?_
  have h3:=h2 j hj Xo
  by_cases e:l[j]=x
  ·exfalso
   apply gz
   refine⟨by omega,?_⟩
   have h4:=h2 p aG (aM _)
   by_cases e2:p=j
   ·subst e2;exact e
   ·have:=JS h (i:=p) (j:=j) aG hj
    omega
  ·omega
 have tail:(p=0∨∃h:p - 1<l.length,l[p - 1]<x)→True:=fun _=>trivial
 by_cases hp0:0<p
 ·have WS:((p:Int) - 1).toNat=p - 1:=by omega
  have sB:((p:Int) - 1).toNat<l.length:=by omega
  by_cases hq:x≤l[((p:Int) - 1).toNat]
  ·(refine Fb ?_;refine Gl ?_;refine zm ?_;refine Fk ?_;(focus ((with_reducible apply a_.e8);(iterate 7 exact rfl);omega;rotate_left;(first|omega|exact db|exact(by simp))));refine PC ?_;refine s6 ?_;refine AW.skip ?_;refine gr ?_;refine AW.block ?_;refine qC ?_;refine y6 ?_;refine uC ?_;refine gL ?_;refine gr ?_)
   exact⟨p - 1,⟨by omega,fun j hj Xo=>by
    by_cases e:j=p - 1
    ·subst e;simpa only[WS] using hq
    ·exact h2 j hj aG⟩,by omega,e_ rfl (by(refine⟨.d_ (by first|rfl|omega),?_⟩;refine aA ?_;refine⟨.fb (by first|rfl|omega),?_⟩;refine⟨.d_ (by first|rfl|omega),?_⟩;exact trivial)) (by(exact trivial)) rfl⟩
  ·have D5:¬x≤l[p - 1]:=by simpa only[WS] using hq
   have T4:p=0∨∃h:p - 1<l.length,l[p - 1]<x:=.inr ⟨by omega,by omega⟩
   by_cases hn:p<l.length
   ·by_cases he:l[p]=x
    ·have hc:canon (l++ [x])=l:=qQ h (by rw[← he];exact cT hn)
     rw[hc]
     (refine Fb ?_;refine Gl ?_;refine zm ?_;refine Fk ?_;(focus ((with_reducible apply a_.e8);(iterate 7 exact rfl);omega;rotate_left;(first|omega|exact db|exact(by simp))));refine PC ?_;refine zd ?_;refine Q7 ?_;refine rX ?_;refine Hh ?_;refine pq ?_;refine ay ?_;refine Pn ?_;refine nD ?_;refine zm ?_;refine Dl ?_)
     all_goals (apply c_;(exact fZ.one (.tmp rfl rfl));(refine Le.fb ?_;(rfl)))
    ·have hr:=rest T4 (by rintro⟨_,e⟩;exact he e)
     (refine Fb ?_;refine Gl ?_;refine zm ?_;refine Fk ?_;(focus ((with_reducible apply a_.e8);(iterate 7 exact rfl);omega;rotate_left;(first|omega|exact db|exact(by simp))));refine PC ?_;refine zd ?_;refine Q7 ?_;refine rX ?_;refine Hh ?_;refine pq ?_;refine ay ?_;refine Pn ?_;refine qZ ?_;refine a_.M9 rfl rfl rfl rfl rfl ?_;refine nz ?_;refine SW ?_;(with_reducible apply a_.fl);exact rfl;exact ai;(iterate 9 exact rfl);exact ab;refine nz ?_;refine C0 ?_;refine q9 ?_;(with_reducible apply a_.fl);exact rfl;exact ai;(iterate 9 exact rfl);exact ab;refine N9 ?_;(with_reducible apply a_.fl);exact rfl;exact ai;(iterate 9 exact rfl);exact ab;refine sM ?_;refine Q5 ?_;refine GW ?_)
     all_goals (apply c_;(exact fZ.one (.tmp rfl rfl));(refine Le.fR ?_;(first|rfl|(rw[← hr];simp [encI]))))
   ·have hr:=rest T4 (by rintro⟨h5,_⟩;omega)
    (refine Fb ?_;refine Gl ?_;refine zm ?_;refine Fk ?_;(focus ((with_reducible apply a_.e8);(iterate 7 exact rfl);omega;rotate_left;(first|omega|exact db|exact(by simp))));refine PC ?_;refine zd ?_;refine Q7 ?_;refine rX ?_;refine Wq ?_;(with_reducible apply a_.fl);exact rfl;exact ai;(iterate 9 exact rfl);exact ab;refine nz ?_;refine C0 ?_;refine q9 ?_;(with_reducible apply a_.fl);exact rfl;exact ai;(iterate 9 exact rfl);exact ab;refine N9 ?_;(with_reducible apply a_.fl);exact rfl;exact ai;(iterate 9 exact rfl);exact ab;refine sM ?_;refine Q5 ?_;refine GW ?_)
    all_goals (apply c_;(exact fZ.one (.tmp rfl rfl));(refine Le.fR ?_;(first|rfl|(rw[← hr];simp [encI]))))
 ·have T4:p=0∨∃h:p - 1<l.length,l[p - 1]<x:=.inl (by omega)
  by_cases hn:p<l.length
  ·by_cases he:l[p]=x
   ·have hc:canon (l++ [x])=l:=qQ h (by rw[← he];exact cT hn)
    rw[hc]
    (refine QN ?_;refine Hh ?_;refine pq ?_;refine ay ?_;refine Pn ?_;refine nD ?_;refine zm ?_;refine Dl ?_)
    all_goals (apply c_;(exact fZ.one (.tmp rfl rfl));(refine Le.fb ?_;(rfl)))
   ·have hr:=rest T4 (by rintro⟨_,e⟩;exact he e)
    (refine QN ?_;refine Hh ?_;refine pq ?_;refine ay ?_;refine Pn ?_;refine qZ ?_;refine a_.M9 rfl rfl rfl rfl rfl ?_;refine nz ?_;refine SW ?_;(with_reducible apply a_.fl);exact rfl;exact ai;(iterate 9 exact rfl);exact ab;refine nz ?_;refine C0 ?_;refine q9 ?_;(with_reducible apply a_.fl);exact rfl;exact ai;(iterate 9 exact rfl);exact ab;refine N9 ?_;(with_reducible apply a_.fl);exact rfl;exact ai;(iterate 9 exact rfl);exact ab;refine sM ?_;refine Q5 ?_;refine GW ?_)
    all_goals (apply c_;(exact fZ.one (.tmp rfl rfl));(refine Le.fR ?_;(first|rfl|(rw[← hr];simp [encI]))))
  ·have hr:=rest T4 (by rintro⟨h5,_⟩;omega)
   (refine QN ?_;refine Wq ?_;(with_reducible apply a_.fl);exact rfl;exact ai;(iterate 9 exact rfl);exact ab;refine nz ?_;refine C0 ?_;refine q9 ?_;(with_reducible apply a_.fl);exact rfl;exact ai;(iterate 9 exact rfl);exact ab;refine N9 ?_;(with_reducible apply a_.fl);exact rfl;exact ai;(iterate 9 exact rfl);exact ab;refine sM ?_;refine Q5 ?_;refine GW ?_)
   all_goals (apply c_;(exact fZ.one (.tmp rfl rfl));(refine Le.fR ?_;(first|rfl|(rw[← hr];simp [encI]))))
end Go.Ab
/- Chapter 06:the intersection. -/
namespace Go.Ab
open Go Go.Proofs
set_option maxRecDepth 20000
set_option maxHeartbeats 4000000
def nL (a b:List Int):List Int:=a.filter fun t=>decide (t∈b)
attribute [local irreducible] AW a_ fT ff AR fh e6 fp fA q7 nL
end Go.Ab
/- Chapter 06's reference:a list put in order,unions,meets,differences,inclusion. -/
namespace Go.Ab
open Go Go.Proofs
open Nat (reduceAdd reduceSub)
set_option maxRecDepth 20000
set_option maxHeartbeats 4000000
theorem pd:canon []=[]:=ML (by simp)
theorem FA {ts:List Int} {i:Nat} (hi:i<ts.length):canon (canon (ts.take i)++ [ts[i]])=canon (ts.take (i+1)):=by
 rw[fF hi]
 exact Dt fun x=>by rw[bW,bW,lh]
attribute [local irreducible] AW a_ fT ff AR fh e6 fp fA canon gg nL
theorem SC (ar:Int) (ts:List Int) (ht:ts.length≤1000000):Fn Tryz.prog 96 [eU ar,.pv (ints ts)] (mA (ar,canon ts)):=by
 refine Fn.enter (n:=24) Tryz.func96 rfl rfl rfl rfl rfl (by decide) fun g fu fw=>?_;(try refine nz ?_)
 (refine zq ?_;refine pZ ?_;refine nd ?_;refine zm ?_;refine Ip ?_;refine sO ?_)
 (refine nz ?_;apply AW.fO [5,4,1] [0] (fun i:Nat=>([(6,eU i)]:List (Nat×AV))) (fun i:Nat=>([(1,some (.box [eU ar,.pv (ints (canon (ts.take i)))]))]:List (Nat×Option Ob))) (fun i:Nat=>i≤ts.length) (fun i:Nat=>ts.length - i) (0);(conv=>lhs;simp only[Nf.jI,Nf.all,c6,reduceAdd,reduceSub]);(all_goals skip))
 ·exact bg _
 ·exact e_ rfl (by(refine⟨.d_ (by first|rfl|(rw[dK,pd];rfl)),?_⟩;(iterate 2 refine aA ?_);refine⟨.fb (by first|rfl|(rw[dK,pd];rfl)),?_⟩;exact trivial)) (by(refine⟨.box _ rfl ?_,?_⟩;refine⟨.d_ (by first|rfl|(rw[dK,pd];rfl)),?_⟩;refine⟨.QF (by first|rfl|(rw[dK,pd];rfl)),?_⟩;exact trivial;refine⟨.box _ rfl ?_,?_⟩;refine⟨.d_ (by first|rfl|(rw[dK,pd];rfl)),?_⟩;refine aA ?_;(iterate 2 exact trivial))) rfl
 rintro i hi
 have nt:=HE (ts.take i)
 have VI:=List.length_take_le i ts
 by_cases ft:i<ts.length
 ·have hs:=FA ft
  have W8:=N7 (canon (ts.take i)) ts[i] aG (mc _)
  rw[hs] at W8
  (refine yn ?_;refine Q1 ?_;refine AW.ie [0,1,2,3,4,5] [8] rfl (by assumption) aF aF rfl ?_;show a_ .held _ _ _ [_,_,_,_,_,_] _ _;refine zi ?_;(iterate 2 refine zm ?_);refine ay ?_;refine zr ?_;refine Q3 ?_;intro k_ jA;refine nz ?_;refine AR.fI (i:=6) rfl aF rfl ?_;intro g_ eV hG;refine zP (W8) ?_;refine Q3 ?_;refine AR.lW [7] aF aF aF aF ?_;intro g_ eV;show a_ .held _ _ _ [_] _ _;refine I4 ?_;intro k_ jA;refine nz ?_;refine Lk ?_;intro g_ eV fz;refine qn ?_;refine N5 ?_;refine vP ?_;refine rS ?_)
  exact⟨i+1,by omega,by omega,e_ rfl (by(refine aA ?_;(iterate 3 refine aA ?_);exact trivial)) (by(refine⟨.box _ rfl ?_,?_⟩;(iterate 2 refine aA ?_);exact trivial;refine⟨.box _ rfl ?_,?_⟩;(iterate 2 refine aA ?_);(iterate 2 exact trivial))) rfl⟩
 ·rw[gV (l:=ts) aG]
  (refine yn ?_;refine Tg ?_;refine Ib ?_)
  (apply c_;(exact fZ.one (.cell rfl rfl rfl rfl));(refine Le.ia ?_;refine gX.cons ?_ ?_;(with_reducible exact Le.pv _);refine gX.cons ?_ ?_;(with_reducible exact Le.pv _);exact gX.nil))
end Go.Ab
/- Chapter 05's reference:first atoms,sorts,ranks,tuples. -/
namespace Go.Ab
open Go Go.Proofs
open Nat (reduceAdd reduceSub)
set_option maxRecDepth 20000
set_option maxHeartbeats 4000000
theorem E4 {l:List Int}:∀{x i:Int},0≤i→(∀k:Nat,k<l.length→iv l x i≠i+k)→iv l x i= -1:=by
 induction l with
 |nil=>intro x i _ _;rfl
 |cons a l ih=>
  intro x i hi h
  unfold iv at h ⊢
  by_cases hc:x<a
  ·exact absurd (by rw[if_pos hc];simp) (h 0 (by simp))
  ·rw[if_neg hc]
   refine ih aG fun k hk e=>?_
   have:=h (k+1) (by simp;omega)
   rw[if_neg hc,e] at this
   exact this (by push_cast;omega)
theorem Mv {l:List Int} (hp:∀y∈l,0≤y) {x:Int} (hx:0≤x) {k:Nat} (hk:k<l.length):iv l x 0=k↔(l.take k).sum≤x∧x<(l.take (k+1)).sum:=by
 have:=AG (l:=l) (x:=x) (i:=0) (k:=k) hp hx aG hk
 rw[eC,kT hk] at this
 rw[this,my l hk]
def oX (n:Int):Nat→Int→List Int
 |0,_=>[]
 |k+1,r=>oX n k (r / n)++ [r % n]
theorem ya (n:Int):∀(k:Nat) (r:Int),(oX n k r).length=k
 |0,_=>rfl
 |k+1,r=>by simp [oX,ya n k]
attribute [local irreducible] AW a_ fT ff AR fh e6 fp fA
theorem s4 (at':List Int) (st:Int) (s:Nat) (h:sr at') (hs:s≤at'.length):Fn Tryz.prog 159 [pI at' st,eU s] (eU (at'.take s).sum):=by
 have hb:=h.take
 have hle:=h.1
 refine Fn.enter (n:=27) Tryz.func159 rfl rfl rfl rfl rfl (by decide) fun g fu fw=>?_;(try refine nz ?_)
 (refine tc ?_;refine mw ?_)
 (refine nz ?_;apply AW.fO [4,2,1] [0] (fun i:Nat=>([(5,eU (at'.take i).sum),(6,eU i)]:List (Nat×AV))) (fun i:Nat=>([]:List (Nat×Option Ob))) (fun i:Nat=>i≤s) (fun i:Nat=>s - i) (0);(conv=>lhs;simp only[Nf.jI,Nf.all,c6,reduceAdd,reduceSub]);(all_goals skip))
 ·exact bg _
 ·exact e_ rfl (by(refine aA ?_;(iterate 4 refine aA ?_);exact trivial)) (by(refine⟨.box _ rfl ?_,?_⟩;(iterate 2 refine aA ?_);(iterate 2 exact trivial))) rfl
 rintro i hi
 by_cases ft:i<s
 ·have gM:i<at'.length:=by omega
  have mL:=my at' gM
  have h1:=hb i
  have h2:=hb (i+1)
  (refine rO ?_;refine Gl ?_;refine a_.b_ 30 0 0 rfl rfl rfl rfl ?_;refine wc ?_;refine zn ?_;refine xQ ?_;refine tU ?_;refine qC ?_;refine A3 ?_;refine ay ?_;refine zr ?_;refine zj ?_;refine uC ?_;refine uk ?_)
  exact⟨i+1,by omega,by omega,e_ rfl (by(refine⟨.d_ (by first|rfl|(rw[mL])),?_⟩;refine⟨.d_ (by first|rfl|(rw[mL])),?_⟩;refine⟨.d_ (by first|rfl|(rw[mL])),?_⟩;refine aA ?_;refine⟨.d_ (by first|rfl|(rw[mL])),?_⟩;exact trivial)) (by(refine⟨.box _ rfl ?_,?_⟩;refine⟨.fb (by first|rfl|(rw[mL])),?_⟩;refine⟨.d_ (by first|rfl|(rw[mL])),?_⟩;(iterate 2 exact trivial))) rfl⟩
 ·obtain rfl:i=s:=by omega
  (refine rO ?_;refine zm ?_;(iterate 5 refine a_.kR rfl rfl rfl rfl rfl rfl (by first|omega|decide) ?_);refine zF ?_;refine BE ?_;refine zm ?_;refine j7 ?_)
  all_goals (apply c_;(exact fZ.one (.tmp rfl rfl));(refine Le.eU ?_;(rfl)))
theorem yd (at':List Int) (st:Int) (h:sr at'):Fn Tryz.prog 147 [pI at' st] (eU at'.sum):=by
 have hf:=s4 at' st at'.length h (aM _)
 rw[dF] at hf
 refine Fn.enter (n:=8) Tryz.func147 rfl rfl rfl rfl rfl (by decide) fun g fu fw=>?_;(try refine nz ?_)
 (refine tc ?_;refine j4 ?_;refine BI ?_;refine zn ?_;refine zA (hf) ?_;refine j7 ?_)
 (apply c_;(exact fZ.one (.tmp rfl rfl));(refine Le.eU ?_;(rfl)))
theorem DN (at':List Int) (st x:Int) (h:sr at') (hx:0≤x):Fn Tryz.prog 148 [pI at' st,eU x] (eU (iv at' x 0)):=by
 have hle:=h.1
 have hp:∀y∈at',0≤y:=fun y hy=>(h.2 y hy).1
 refine Fn.enter (n:=27) Tryz.func148 rfl rfl rfl rfl rfl (by decide) fun g fu fw=>?_;(try refine nz ?_)
 (refine lV ?_;refine mw ?_)
 (refine nz ?_;apply AW.fO [2,1] [0] (fun i:Nat=>([(5,eU i)]:List (Nat×AV))) (fun i:Nat=>([]:List (Nat×Option Ob))) (fun i:Nat=>i≤at'.length∧∀j,j<i→iv at' x 0≠(j:Nat)) (fun i:Nat=>at'.length - i) (0);(conv=>lhs;simp only[Nf.jI,Nf.all,c6,reduceAdd,reduceSub]);(all_goals skip))
 ·exact⟨bg _,fun j hj=>by omega⟩
 ·exact W4
 rintro i ⟨hi,lz⟩
 by_cases ft:i<at'.length
 ·have h1:=s4 at' st i h (by omega)
  have h2:=s4 at' st (i+1) h (by omega)
  rw[show((i+1:Nat):Int)=(i:Int)+1 by omega] at h2
  have hq:=Mv hp hx ft
  by_cases hc:(at'.take i).sum≤x∧x<(at'.take (i+1)).sum
  ·have he:=hq.2 hc
   rw[he]
   (refine yp ?_;refine zd ?_;refine vo ?_;refine zm ?_;refine nG ?_;refine zA (h1) ?_;refine IE ?_;refine j4 ?_;refine zt ?_;refine pq ?_;refine zj ?_;refine zt ?_;refine zA (h2) ?_;refine xQ ?_;refine nD ?_;refine zm ?_;refine oC ?_)
   all_goals (apply c_;(exact fZ.one (.tmp rfl rfl));(refine Le.eU ?_;(rfl)))
  ·(refine yp ?_;refine zd ?_;refine vo ?_;refine zm ?_;refine nG ?_;refine zA (h1) ?_;refine a_.geq rfl rfl rfl rfl rfl ?_;refine zm ?_;(focus ((with_reducible apply a_.EA);(iterate 6 exact rfl);all_goals intro qp));refine pq ?_;refine j4 ?_;refine zt ?_;refine pq ?_;refine zj ?_;refine zt ?_;refine zA (h2) ?_;refine xQ ?_;refine rP ?_;(all_goals skip);rotate_left;refine PJ ?_;refine mC ?_;refine uk ?_;(all_goals skip);rotate_left)
   all_goals exact⟨i+1,⟨by omega,fun j hj=>by
    rcases ew (ey hj) with h|rfl
    ·exact lz j h
    ·exact fun e=>hc (hq.1 e)⟩,by omega,e_ rfl (by(refine aA ?_;(iterate 2 refine aA ?_);exact trivial)) (by(refine⟨.box _ rfl ?_,?_⟩;(iterate 2 refine aA ?_);(iterate 2 exact trivial))) rfl⟩
 ·have he:iv at' x 0= -1:=E4 aG fun k hk=>by
   have:=lz k (by omega)
   omega
  rw[he]
  (refine yp ?_;refine rY ?_;refine j7 ?_)
  (apply c_;(exact fZ.one (.tmp rfl rfl));(refine Le.eU ?_;(rfl)))
theorem xX (at':List Int) (st:Int) (k:Nat) (h:sr at') (hs:at'.sum≤1000) (hk:k≤3):Fn Tryz.prog 110 [pI at' st,eU k] (eU (at'.sum ^ k)):=by
 have ha:=yd at' st h
 have hb:=h.take at'.length
 rw[dF] at hb
 have Up:=ry (n:=at'.sum) ⟨hb.1,hs⟩
 generalize at'.sum=n at*
 refine Fn.enter (n:=21) Tryz.func110 rfl rfl rfl rfl rfl (by decide) fun g fu fw=>?_;(try refine nz ?_)
 (refine tc ?_;refine mw ?_)
 (refine nz ?_;apply AW.fO [4,2,1] [0] (fun i:Nat=>([(5,eU (n ^ i)),(6,eU i)]:List (Nat×AV))) (fun i:Nat=>([]:List (Nat×Option Ob))) (fun i:Nat=>i≤k) (fun i:Nat=>k - i) (0);(conv=>lhs;simp only[Nf.jI,Nf.all,c6,reduceAdd,reduceSub]);(all_goals skip))
 ·exact bg _
 ·exact e_ rfl (by(refine⟨.d_ (by first|rfl|exact(eF n).symm),?_⟩;refine⟨.d_ (by first|rfl|exact(eF n).symm),?_⟩;refine⟨.d_ (by first|rfl|exact(eF n).symm),?_⟩;refine aA ?_;refine⟨.d_ (by first|rfl|exact(eF n).symm),?_⟩;exact trivial)) (by(refine⟨.box _ rfl ?_,?_⟩;refine⟨.fb (by first|rfl|exact(eF n).symm),?_⟩;refine⟨.d_ (by first|rfl|exact(eF n).symm),?_⟩;(iterate 2 exact trivial))) rfl
 rintro i hi
 by_cases ft:i<k
 ·have h1:=Up i (by omega)
  have h2:=Up (i+1) (by omega)
  have he:n ^ (i+1)=n ^ i*n:=eD _ _
  rw[he] at h2
  (refine rO ?_;refine A1 ?_;refine qC ?_;refine zm ?_;refine j4 ?_;refine zA (ha) ?_;refine a_.mul rfl rfl rfl rfl rfl aG ?_;refine uC ?_;refine uk ?_)
  exact⟨i+1,by omega,by omega,e_ rfl (by(refine⟨.d_ (by first|rfl|(rw[he])),?_⟩;refine⟨.d_ (by first|rfl|(rw[he])),?_⟩;refine⟨.d_ (by first|rfl|(rw[he])),?_⟩;refine aA ?_;refine⟨.d_ (by first|rfl|(rw[he])),?_⟩;exact trivial)) (by(refine⟨.box _ rfl ?_,?_⟩;refine⟨.fb (by first|rfl|(rw[he])),?_⟩;refine⟨.d_ (by first|rfl|(rw[he])),?_⟩;(iterate 2 exact trivial))) rfl⟩
 ·obtain rfl:i=k:=by omega
  (refine rO ?_;refine Mm ?_;refine BE ?_;refine zm ?_;refine j7 ?_)
  all_goals (apply c_;(exact fZ.one (.tmp rfl rfl));(refine Le.eU ?_;(rfl)))
end Go.Ab
/- Chapter 05's reference:the atoms of a rank. -/
namespace Go.Ab
open Go Go.Proofs
open Nat (reduceAdd reduceSub)
set_option maxRecDepth 20000
set_option maxHeartbeats 4000000
theorem Hb {j:Nat} {D E:List Int} {x:Int}:(bX (j+1) 0++D++E).set j x=bX j 0++(x::D)++E:=by
 rw[dG,List.set_append_left _ _ (by simp),dG]
 have e:(bX (j+1) (0:Int)).set j x=bX j 0++ [x]:=by
  rw[List.replicate_succ',List.set_append_right _ _ (by simp)]
  simp
 rw[e]
 simp
attribute [local irreducible] AW a_ fT ff AR fh e6 fp fA
theorem FJ (at':List Int) (st:Int) (k:Nat) (r:Int) (h:sr at') (hs:at'.sum≤1000) (hk:k≤3) (hr:0≤r∧r<at'.sum ^ k) (hn:1≤at'.sum):Fn Tryz.prog 111 [pI at' st,eU k,eU r] (.pv (ints (oX at'.sum k r))):=by
 have ha:=yd at' st h
 have TO:=xX at' st k h hs hk
 have Up:=ry (n:=at'.sum) ⟨by omega,hs⟩ k hk
 generalize at'.sum ^ k=top at*
 generalize at'.sum=n at*
 refine Fn.enter (n:=50) Tryz.func111 rfl rfl rfl rfl rfl (by decide) fun g fu fw=>?_;(try refine nz ?_)
 (refine lV ?_;refine lM ?_;refine zs ?_;refine zm ?_;refine oq ?_;refine a_.gtr rfl rfl rfl rfl rfl ?_;refine a_.jk rfl rfl rfl rfl rfl rfl ?_;refine nS ?_;refine zs ?_;refine zF ?_;refine nS ?_;refine j4 ?_;refine zy ?_;refine mW ?_;refine zA (TO) ?_;refine vV ?_;refine qZ ?_;refine a_.pX rfl rfl rfl rfl rfl rfl rfl rfl rfl rfl aG ?_;refine sM ?_;refine Q5 ?_;refine j4 ?_;refine zA (ha) ?_;refine tr ?_;refine lM ?_;refine a_.sub rfl rfl rfl rfl rfl aG ?_;refine sO ?_)
 (refine nz ?_;apply AW.fO [8,6,1] [1] (fun s:Nat×Int×List Int=>([(7,.own 1 3 1 ((bX s.1 0++s.2.2++bX (3 - k) 0).map encI)),(9,eU s.2.1),(10,eU ((s.1:Int) - 1))]:List (Nat×AV))) (fun s:Nat×Int×List Int=>([]:List (Nat×Option Ob))) (fun s:Nat×Int×List Int=>s.1≤k∧s.2.2.length=k - s.1∧0≤s.2.1∧s.2.1≤9223372036854775807∧oX n k r=oX n s.1 s.2.1++s.2.2) (fun s:Nat×Int×List Int=>s.1) ((k,r,[]));(conv=>lhs;simp only[Nf.jI,Nf.all,c6,reduceAdd,reduceSub]);(all_goals skip))
 ·exact⟨aM _,by simp,hr.1,by show r≤_;omega,by simp⟩
 ·exact e_ rfl (by(refine⟨.fR (by first|rfl|(show bX 3 _=dm encI _;rw[bp,eG,dr,show k+(3 - k)=3 by omega];rfl)) rfl,?_⟩;refine⟨.d_ (by first|rfl|(show bX 3 _=dm encI _;rw[bp,eG,dr,show k+(3 - k)=3 by omega];rfl)),?_⟩;refine⟨.d_ (by first|rfl|(show bX 3 _=dm encI _;rw[bp,eG,dr,show k+(3 - k)=3 by omega];rfl)),?_⟩;refine⟨.d_ (by first|rfl|(show bX 3 _=dm encI _;rw[bp,eG,dr,show k+(3 - k)=3 by omega];rfl)),?_⟩;refine aA ?_;refine⟨.d_ (by first|rfl|(show bX 3 _=dm encI _;rw[bp,eG,dr,show k+(3 - k)=3 by omega];rfl)),?_⟩;exact trivial)) (by(refine aC ?_;exact trivial)) rfl
 rintro⟨j,r',D⟩ ⟨h1,h2,h3,h4,h5⟩
 simp only at h1 h2 h3 h4 h5 ⊢
 cases j with
 |zero=>
  have e1:oX n k r=D:=h5
  rw[e1]
  (refine rH ?_;refine a_.geq rfl rfl rfl rfl rfl ?_;refine BE ?_;refine a_.gk rfl rfl rfl ?_;refine zm ?_;(with_reducible apply a_.IZ);(iterate 7 exact rfl);omega;exact ab;refine Jn ?_;refine AW.ret ?_)
  (apply c_;(exact fZ.one (.tmp rfl rfl));(refine Le.fR ?_;(first|rfl|(show List.take _ (dm encI _)=_;rw[← List.map_take,dg,List.replicate_zero,eA,List.take_append_of_le_length aG,List.take_of_length_le aG]))))
 |succ j=>
  have ek:((j+1:Nat):Int) - 1=(j:Int):=by omega
  rw[ek]
  have TC:=dX h3 (by omega:0≤n)
  have hd2:=Int.ediv_le_self n h3
  have hlen:(bX (j+1) (0:Int)++D++bX (3 - k) 0).length=3:=by simp;omega
  have mX:=Hb (j:=j) (D:=D) (E:=bX (3 - k) 0) (x:=r' % n)
  (refine QM ?_;refine a_.gk rfl rfl rfl ?_;(iterate 3 refine zm ?_);refine a_.Ef rfl rfl rfl rfl rfl aG ?_;refine O7 ?_;refine a_.qE rfl rfl rfl rfl rfl rfl rfl rfl ?_;refine zd ?_;refine Bl ?_;refine a_.J7 rfl rfl rfl rfl rfl aG ?_;refine uC ?_;refine vP ?_;refine nz ?_;refine y6 ?_;refine Q4 ?_)
  exact⟨(j,r' / n,r' % n::D),⟨by show j≤k;omega,by show(r' % n::D).length=k - j;rw[cb];omega,TC,by show r' / n≤_;omega,by show _=oX n j (r' / n)++(r' % n::D);rw[h5];show(oX n j (r' / n)++ [r' % n])++D=_;simp⟩,by show j<j+1;omega,e_ rfl (by(refine⟨.fR (by first|rfl|(rw[← mX,cz];rfl)) rfl,?_⟩;refine⟨.d_ (by first|rfl|(rw[← mX,cz];rfl)),?_⟩;refine⟨.d_ (by first|rfl|(rw[← mX,cz];rfl)),?_⟩;refine⟨.d_ (by first|rfl|(rw[← mX,cz];rfl)),?_⟩;refine aA ?_;refine⟨.d_ (by first|rfl|(rw[← mX,cz];rfl)),?_⟩;exact trivial)) (by(refine aC ?_;exact trivial)) rfl⟩
end Go.Ab
/- Chapter 05's reference:a tuple's atoms against sorts. -/
namespace Go.Ab
open Go Go.Proofs
open Nat (reduceAdd reduceSub)
set_option maxRecDepth 20000
set_option maxHeartbeats 4000000
def lE (at':List Int):List Int→List Int→Bool
 |s::ss,t::ts=>decide (iv at' t 0=s) && lE at' ss ts
 |_,_=>true
theorem Fa {at' ss ts:List Int} {i:Nat} (h1:i<ss.length) (h2:i<ts.length):lE at' (ss.drop i) (ts.drop i)=(decide (iv at' ts[i] 0=ss[i]) && lE at' (ss.drop (i+1)) (ts.drop (i+1))):=by
 rw[dY h1,dY h2];rfl
attribute [local irreducible] AW a_ fT ff AR fh e6 fp fA
theorem Iw (at':List Int) (st:Int) (ts ss:List Int) (h:sr at') (hl:ts.length=ss.length) (hs:ss.length≤1000) (hp:∀t∈ts,0≤t):Fn Tryz.prog 112 [pI at' st,.pv (ints ts),.pv (ints ss)] (fe (lE at' ss ts)):=by
 refine Fn.enter (n:=25) Tryz.func112 rfl rfl rfl rfl rfl (by decide) fun g fu fw=>?_;(try refine nz ?_)
 (refine lV ?_;refine mw ?_)
 (refine nz ?_;apply AW.fO [3,1,2] [0] (fun i:Nat=>([(7,eU i)]:List (Nat×AV))) (fun i:Nat=>([]:List (Nat×Option Ob))) (fun i:Nat=>i≤ss.length∧lE at' ss ts=lE at' (ss.drop i) (ts.drop i)) (fun i:Nat=>ss.length - i) (0);(conv=>lhs;simp only[Nf.jI,Nf.all,c6,reduceAdd,reduceSub]);(all_goals skip))
 ·exact⟨bg _,rfl⟩
 ·exact UD
 rintro i ⟨hi,he⟩
 by_cases ft:i<ss.length
 ·have gM:i<ts.length:=by omega
  rw[Fa ft gM] at he
  have Hk:=DN at' st ts[i] h (hp _ (cT gM))
  by_cases hq:iv at' ts[i] 0=ss[i]
  ·rw[decide_eq_true hq,dt] at he
   (refine s7 ?_;(with_reducible apply AW.fG);exact rfl;exact rfl;kernel_rfl;(with_reducible assumption);refine vX ?_;refine ay ?_;refine zr ?_;refine zA (Hk) ?_;(iterate 2 refine zm ?_);refine ay ?_;refine Jc ?_;refine rP ?_)
   exact⟨i+1,⟨by omega,he⟩,by omega,e_ rfl (by(refine aA ?_;(iterate 3 refine aA ?_);exact trivial)) (by(refine⟨.box _ rfl ?_,?_⟩;(iterate 2 refine aA ?_);(iterate 2 exact trivial))) rfl⟩
  ·rw[decide_eq_false hq,du] at he
   (refine s7 ?_;(with_reducible apply AW.fG);exact rfl;exact rfl;kernel_rfl;(with_reducible assumption);refine vX ?_;refine ay ?_;refine zr ?_;refine zA (Hk) ?_;(iterate 2 refine zm ?_);refine ay ?_;refine Jc ?_;refine nD ?_;refine oC ?_)
   (apply c_;(exact fZ.one (.tmp rfl rfl));(refine Le.fe ?_;(exact he.symm)))
 ·rw[dI aG] at he
  have he:lE at' ss ts=true:=by rw[he];unfold lE;rfl
  (refine EE ?_)
  (apply c_;(exact fZ.one (.tmp rfl rfl));(refine Le.fe ?_;(exact he.symm)))
end Go.Ab
/- Chapter 05's reference:all tuples whose atoms have the columns' sorts. -/
namespace Go.Ab
open Go Go.Proofs
open Nat (reduceAdd reduceSub)
set_option maxRecDepth 20000
set_option maxHeartbeats 4000000
theorem Gi {n:Int} (hn:1≤n):∀(k:Nat) {r:Int},0≤r→∀t∈oX n k r,0≤t
 |0,_,_,t,h=>by simp [oX] at h
 |k+1,r,hr,t,h=>by
  simp only[oX,bW,cp] at h
  rcases h with h|rfl
  ·exact Gi hn k (dX hr aG) t h
  ·exact c9 r (by omega)
def kO (p:Int→Bool) (m:Nat):List Int:=((List.range m).map fun(i:Nat)=>(i:Int)).filter p
theorem ET (p:Int→Bool) (m:Nat):kO p (m+1)=kO p m++if p m=true then [(m:Int)] else []:=by
 unfold kO
 rw[List.range_succ,cV,List.filter_append]
 by_cases h:p m=true
 ·simp [h]
 ·simp [h]
theorem G7 (p:Int→Bool) (m:Nat):(kO p m).length≤m:=by
 unfold kO
 exact aN (List.length_filter_le _ _) (by simp)
attribute [local irreducible] AW a_ fT ff AR fh e6 fp fA kO oX lE
theorem I3 (at':List Int) (st:Int) (l:List Int) (hc:jT at'.length l=true) (h:sr at') (hs:at'.sum≤1000) (hn:1≤at'.sum):
  Fn Tryz.prog 74 [pI at' st,.pv (ints l)] (mA (l.length,kO (fun r=>lE at' l (oX at'.sum l.length r)) (at'.sum ^ l.length).toNat)):=by
 unfold jT at hc
 rw[aW,decide_eq_true_eq] at hc
 obtain⟨P0,SD⟩:=hc
 have nf:=wE SD
 have hle:=h.1
 have TO:=xX at' st l.length h hs (by omega)
 have Up:=ry (n:=at'.sum) ⟨by omega,hs⟩ l.length (by omega)
 have htu:=fun r hr=>FJ at' st l.length r h hs aG hr hn
 have AO:=fun r hr=>Iw at' st (oX at'.sum l.length r) l h (ya _ _ _) aG (Gi hn l.length (r:=r) hr)
 generalize hp:(fun r=>lE at' l (oX at'.sum l.length r))=p
 have hpe:∀r,lE at' l (oX at'.sum l.length r)=p r:=fun r=>by rw[← hp]
 obtain⟨m,hm⟩:∃m:Nat,at'.sum ^ l.length=(m:Int):=⟨(at'.sum ^ l.length).toNat,by omega⟩
 rw[hm] at TO Up htu ⊢
 rw[dg]
 refine Fn.enter (n:=64) Tryz.func74 rfl rfl rfl rfl rfl (by decide) fun g fu fw=>?_;(try refine nz ?_)
 (refine lV ?_;refine pZ ?_;refine nd ?_;refine zm ?_;refine zn ?_;refine lM ?_;refine zs ?_;refine mW ?_;refine zm ?_;refine wL ?_;refine tH ?_;refine sO ?_)
 (refine nz ?_;apply AW.fO [5,4,2,1] [1,0] (fun i:Nat=>([(6,eU i)]:List (Nat×AV))) (fun i:Nat=>([]:List (Nat×Option Ob))) (fun i:Nat=>i≤l.length) (fun i:Nat=>l.length - i) (0);(conv=>lhs;simp only[Nf.jI,Nf.all,c6,reduceAdd,reduceSub]);(all_goals skip))
 ·exact bg _
 ·exact e_ rfl (by(refine aA ?_;(iterate 4 refine aA ?_);exact trivial)) (by(refine⟨.box _ rfl ?_,?_⟩;(iterate 2 refine aA ?_);exact trivial;refine⟨.box _ rfl ?_,?_⟩;(iterate 2 refine aA ?_);(iterate 2 exact trivial))) rfl
 rintro i hi
 by_cases ft:i<l.length
 ·have hb:=nf _ (cT ft)
  (refine rO ?_;refine tU ?_;refine zo ?_;(with_reducible apply AW.fG);exact rfl;exact rfl;kernel_rfl;(with_reducible assumption);(iterate 2 refine zm ?_);refine ay ?_;refine uT ?_;refine nS ?_;refine mW ?_;refine ay ?_;refine ov ?_;refine zy ?_;refine PH ?_;refine zn ?_;refine vV ?_;refine rP ?_)
  exact⟨i+1,by omega,by omega,e_ rfl (by(refine aA ?_;(iterate 4 refine aA ?_);exact trivial)) (by(refine⟨.box _ rfl ?_,?_⟩;(iterate 2 refine aA ?_);exact trivial;refine⟨.box _ rfl ?_,?_⟩;(iterate 2 refine aA ?_);(iterate 2 exact trivial))) rfl⟩
 obtain rfl:i=l.length:=by omega
 (refine rO ?_;refine rY ?_;refine zm ?_;refine Ip ?_;refine sO ?_)
 (refine nz ?_;apply AW.fO [7,5,4,2,1] [1,0] (fun r:Nat=>([(8,eU r)]:List (Nat×AV))) (fun r:Nat=>([(2,some (.box [eU l.length,.own 3 3 1 ((kO p r).map encI)])),(3,some .row)]:List (Nat×Option Ob))) (fun r:Nat=>r≤m) (fun r:Nat=>m - r) (0);(conv=>lhs;simp only[Nf.jI,Nf.all,c6,reduceAdd,reduceSub]);(all_goals skip))
 ·exact bg _
 ·exact e_ rfl (by(refine⟨.d_ (by first|rfl|(unfold kO;rfl)),?_⟩;refine aA ?_;refine⟨.d_ (by first|rfl|(unfold kO;rfl)),?_⟩;(iterate 2 refine aA ?_);refine⟨.fb (by first|rfl|(unfold kO;rfl)),?_⟩;exact trivial)) (by(refine⟨.box _ rfl ?_,?_⟩;refine⟨.d_ (by first|rfl|(unfold kO;rfl)),?_⟩;refine⟨.nc (by first|rfl|(unfold kO;rfl)) rfl rfl,?_⟩;exact trivial;refine⟨.jv rfl,?_⟩;refine⟨.box _ rfl ?_,?_⟩;refine⟨.d_ (by first|rfl|(unfold kO;rfl)),?_⟩;refine aA ?_;exact trivial;refine⟨.box _ rfl ?_,?_⟩;refine⟨.fb (by first|rfl|(unfold kO;rfl)),?_⟩;refine⟨.d_ (by first|rfl|(unfold kO;rfl)),?_⟩;(iterate 2 exact trivial))) rfl
 rintro r hr
 by_cases gM:r<m
 ·have BP:=G7 p r
  have B2:=ET p r
  have ht:=htu r ⟨by omega,by omega⟩
  have hf:=AO r (by omega)
  rw[hpe] at hf
  cases hb:p r with
  |true=>
   rw[hb] at hf
   rw[if_pos hb] at B2
   (refine Ul ?_;refine zz ?_;refine qC ?_;refine zi ?_;refine q9 ?_;(with_reducible apply a_.fl);exact rfl;exact ai;(iterate 9 exact rfl);exact ab;refine nz ?_;refine O_ ?_;refine vP ?_;refine rS ?_)
   exact⟨r+1,by omega,by omega,e_ rfl (by(refine⟨.d_ (by first|rfl|(rw[B2,cV];rfl)),?_⟩;refine aA ?_;refine⟨.d_ (by first|rfl|(rw[B2,cV];rfl)),?_⟩;(iterate 2 refine aA ?_);refine⟨.fb (by first|rfl|(rw[B2,cV];rfl)),?_⟩;exact trivial)) (by(refine⟨.box _ rfl ?_,?_⟩;refine⟨.d_ (by first|rfl|(rw[B2,cV];rfl)),?_⟩;refine⟨.fR (by first|rfl|(rw[B2,cV];rfl)) rfl,?_⟩;exact trivial;refine aC ?_;refine⟨.box _ rfl ?_,?_⟩;refine⟨.d_ (by first|rfl|(rw[B2,cV];rfl)),?_⟩;refine aA ?_;exact trivial;refine⟨.box _ rfl ?_,?_⟩;refine⟨.fb (by first|rfl|(rw[B2,cV];rfl)),?_⟩;refine⟨.d_ (by first|rfl|(rw[B2,cV];rfl)),?_⟩;(iterate 2 exact trivial))) rfl⟩
  |false=>
   rw[hb] at hf
   rw[if_neg (by rw[hb];simp),bp] at B2
   (refine Ul ?_;refine mC ?_;refine uk ?_)
   exact⟨r+1,by omega,by omega,e_ rfl (by(refine⟨.d_ (by first|rfl|(rw[B2])),?_⟩;refine aA ?_;refine⟨.d_ (by first|rfl|(rw[B2])),?_⟩;(iterate 2 refine aA ?_);refine⟨.fb (by first|rfl|(rw[B2])),?_⟩;exact trivial)) (by(refine⟨.box _ rfl ?_,?_⟩;refine⟨.d_ (by first|rfl|(rw[B2])),?_⟩;refine⟨.fR (by first|rfl|(rw[B2])) rfl,?_⟩;exact trivial;refine aC ?_;refine⟨.box _ rfl ?_,?_⟩;refine⟨.d_ (by first|rfl|(rw[B2])),?_⟩;refine aA ?_;exact trivial;refine⟨.box _ rfl ?_,?_⟩;refine⟨.fb (by first|rfl|(rw[B2])),?_⟩;refine⟨.d_ (by first|rfl|(rw[B2])),?_⟩;(iterate 2 exact trivial))) rfl⟩
 ·obtain rfl:r=m:=by omega
  (refine rH ?_;refine nG ?_;refine zA (TO) ?_;refine zs ?_;refine rY ?_;refine Ib ?_)
  (apply c_;(exact fZ.one (.cell rfl rfl rfl rfl));(refine Le.ia ?_;refine gX.cons ?_ ?_;(with_reducible exact Le.pv _);refine gX.cons ?_ ?_;exact Le.own _ _ _ _ rfl;exact gX.nil))
end Go.Ab
