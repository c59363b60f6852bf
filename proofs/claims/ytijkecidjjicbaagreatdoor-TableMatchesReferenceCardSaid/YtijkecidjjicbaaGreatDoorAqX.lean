/- Chapter 05: all tuples over three columns, walked. -/
import Derived.Test.YtijkecidjjicbaaGreatDoorAqM2
import Derived.Test.YtijkecidjjicbaaGreatDoorAbZ
import Derived.Test.YtijkecidjjicbaaGreatDoorAbL3
set_option linter.unusedSimpArgs false
set_option linter.unusedVariables false
namespace Go.Ab
open Go Go.Proofs
open Nat (reduceAdd reduceSub)
set_option maxRecDepth 20000
set_option maxHeartbeats 8000000
attribute [local irreducible] AW AOps thenD inBlockD AR iterEnds roundEndsN inlEnds noGotoD rks rksTo
theorem full3_fn (at':List Int) (st:Int) (ss:List Int) (hl:ss.length=3) (x y v:Nat) (hx:ss[0]'(by omega)=(x:Int)) (hy:ss[1]'(by omega)=(y:Int)) (hv:ss[2]'(by omega)=(v:Int)) (hs:x<at'.length) (hs2:y<at'.length) (hs3:v<at'.length) (h:SmA at') (hsm:at'.sum≤1000):
  Fn Tryz.prog 50 [scp at' st,.pv (ints ss)] (relA (3,rks at'.sum 0 [((at'.take x).sum,at'[x].toNat),((at'.take y).sum,at'[y].toNat),((at'.take v).sum,at'[v].toNat)])):=by
 have hle:=h.1
 have hb:=h.take x
 have hb2:=h.take y
 have hb3:=h.take v
 have hsb:=h.take at'.length
 rw[List.take_length] at hsb
 have hzb:=h.2 _ (List.getElem_mem hs)
 have hzb2:=h.2 _ (List.getElem_mem hs2)
 have hzb3:=h.2 _ (List.getElem_mem hs3)
 have hw1:=within_fn ss.length 1 3
 rw[decide_eq_true (by omega)] at hw1
 have hw2:=within_fn (ss[0]'(by omega)) 0 (at'.length - 1)
 rw[decide_eq_true (by omega)] at hw2
 have hw3:=within_fn (ss[1]'(by omega)) 0 (at'.length - 1)
 rw[decide_eq_true (by omega)] at hw3
 have hw4:=within_fn (ss[2]'(by omega)) 0 (at'.length - 1)
 rw[decide_eq_true (by omega)] at hw4
 have hff:=first_fn at' st x h (by omega)
 have hff2:=first_fn at' st y h (by omega)
 have hff3:=first_fn at' st v h (by omega)
 have haf:=atoms_fn at' st h
 have hx0:(ss[Int.toNat 0]'(by show 0<_;omega))=(x:Int):=hx
 obtain⟨ss1,hss1⟩:∃ss1,ss1=List.drop (Int.toNat 1) ss:=⟨_,rfl⟩
 have hl1:ss1.length=2:=by rw[hss1];simp;omega
 have hy0:(ss1[Int.toNat 0]'(by show 0<_;omega))=(y:Int):=by
  rw[← hy]
  simp only[hss1]
  rw[List.getElem_drop];rfl
 obtain⟨ss2,hss2⟩:∃ss2,ss2=List.drop (Int.toNat 1) ss1:=⟨_,rfl⟩
 have hl2:ss2.length=1:=by rw[hss2];simp;omega
 have hv0:(ss2[Int.toNat 0]'(by show 0<_;omega))=(v:Int):=by
  rw[← hv]
  simp only[hss2,hss1]
  rw[List.getElem_drop,List.getElem_drop];rfl
 have hss3:List.drop (Int.toNat 1) ss2=[]:=List.drop_eq_nil_of_le (by show _≤1;omega)
 have hnil:(([]:List Int).length:Int)=0:=rfl
 rw[← hx0] at hff
 rw[← hy0] at hff2
 rw[← hv0] at hff3
 have hz:at'[(ss[Int.toNat 0]'(by show 0<_;omega)).toNat]'(by rw[hx0];omega)=at'[x]:=by simp only[hx0];rfl
 have hz2:at'[(ss1[Int.toNat 0]'(by show 0<_;omega)).toNat]'(by rw[hy0];omega)=at'[y]:=by simp only[hy0];rfl
 have hz3:at'[(ss2[Int.toNat 0]'(by show 0<_;omega)).toNat]'(by rw[hv0];omega)=at'[v]:=by simp only[hv0];rfl
 generalize at'[x]=z at hz hzb ⊢
 generalize at'[y]=z2 at hz2 hzb2 ⊢
 generalize at'[v]=z3 at hz3 hzb3 ⊢
 generalize hf:(at'.take x).sum=f at hb hff ⊢
 generalize hf2:(at'.take y).sum=f2 at hb2 hff2 ⊢
 generalize hf3:(at'.take v).sum=f3 at hb3 hff3 ⊢
 generalize hn:at'.sum=n at hsb haf hsm ⊢
 refine Fn.enter (n:=43) Tryz.func50 rfl rfl rfl rfl rfl (by decide) fun g hro_ hwt_=>?_;(try refine nz ?_)
 (refine j368 ?_)
 (refine nz ?_;apply AW.loopR [15,14,4,2,1] [1,0] (fun k:Nat=>([(16,litI k)]:List (Nat×AV))) (fun k:Nat=>([]:List (Nat×Option Ob))) (fun k:Nat=>k≤3) (fun k:Nat=>3 - k) (0);(conv=>lhs;simp only[Nf.lpR,Nf.all,Nat.reduceBEq,reduceAdd,reduceSub]);(all_goals skip))
 ·exact Nat.zero_le _
 ·exact j226
 rintro k hk
 by_cases hk2:k<3
 ·by_cases hk0:k=0
  ·subst hk0
   (refine j7 ?_;(focus ((with_reducible apply AOps.index_map);(iterate 7 exact rfl);rotate_left;omega));refine j356 ?_;refine j210 ?_;refine zA (hw2) ?_;refine j216 ?_)
   exact j206
  by_cases hk1:k=1
  ·subst hk1
   (refine j7 ?_;(focus ((with_reducible apply AOps.index_map);(iterate 7 exact rfl);rotate_left;omega));refine j356 ?_;refine j210 ?_;refine zA (hw3) ?_;refine j216 ?_)
   exact j205
  ·obtain rfl:k=2:=by omega
   (refine j7 ?_;(focus ((with_reducible apply AOps.index_map);(iterate 7 exact rfl);rotate_left;omega));refine j356 ?_;refine j210 ?_;refine zA (hw4) ?_;refine j216 ?_)
   exact⟨3,by omega,by omega,weak rfl (by(refine⟨.eq rfl rfl,?_⟩;(iterate 5 refine⟨.eq rfl rfl,?_⟩);exact trivial)) (by(refine⟨.box _ rfl ?_,?_⟩;(iterate 2 refine⟨.eq rfl rfl,?_⟩);exact trivial;refine⟨.box _ rfl ?_,?_⟩;(iterate 2 refine⟨.eq rfl rfl,?_⟩);(iterate 2 exact trivial))) rfl⟩
 obtain rfl:k=3:=by omega
 (refine j255 ?_;(with_reducible apply AOps.inline (hf:=Tryz.func83));(with_reducible assumption);(iterate 10 exact rfl);intro g_ hro_ hwt_;refine j71 ?_;refine zd ?_;refine AW.block ?_)
 refine AW.rangeFuncUH (ps:=[35]) (by assumption) (by assumption) rfl rfl Tryz.func102 rfl rfl rfl rfl rfl rfl (by decide) ?_
 intro gB tm0 l0 ps0 asg0 body0 hcode0 hroB hwtB hheld0 hupB htm0
 (refine j232 ?_;(with_reducible apply AW.regionQ);exact rfl;exact rfl;kernel_rfl;(with_reducible assumption);refine j27 ?_;refine zb ?_;(focus ((with_reducible apply AOps.index_mapI);(iterate 7 exact rfl);omega;rotate_left;(first|omega|exact Nat.zero_lt_one|exact(by simp))));refine zr ?_;refine zA (hff) ?_;refine j58 ?_;refine zm ?_;refine j92 ?_)
 (refine nz ?_;apply AW.loopR [5,4,1,2,3,1007,1004] [7,6,5,4,3,1,0] (fun i:Nat=>([(6,litI (f+i))]:List (Nat×AV))) (fun i:Nat=>([(2,some (.box [litI ss.length,.own 8 3 1 ((rksTo n 0 f i [(f2,z2.toNat),(f3,z3.toNat)]).map encI)])),(8,some .row)]:List (Nat×Option Ob))) (fun i:Nat=>i≤z.toNat) (fun i:Nat=>z.toNat - i) (0);(conv=>lhs;simp only[Nf.lpR,Nf.all,Nat.reduceBEq,reduceAdd,reduceSub]);(all_goals skip))
 ·exact Nat.zero_le _
 ·exact j49
 rintro i hi
 by_cases hlt:i<z.toNat
 ·obtain⟨p1,hp1⟩:∃p1,p1=0*n+(f+(i:Int)):=⟨_,rfl⟩
  have hp1b:0≤p1∧p1≤1001000:=by omega
  have hp2:0≤(0*n+(f+(i:Int)))*n∧(0*n+(f+(i:Int)))*n≤1001000000:=by
   rw[← hp1]
   exact⟨Int.mul_nonneg (by omega) (by omega),by
    have h1:=Int.mul_le_mul (by omega:p1≤1001000) (by omega:n≤1000) (by omega) (by omega);omega⟩
  have hrs:=rksTo_succ n 0 f i [(f2,z2.toNat),(f3,z3.toNat)]
  have hrl:(rksTo n 0 f i [(f2,z2.toNat),(f3,z3.toNat)]).length≤1000000000:=by
   rw[rksTo_len]
   have h1:i*cols [(f2,z2.toNat),(f3,z3.toNat)]=i*(z2.toNat*z3.toNat):=by simp [cols]
   rw[h1]
   exact Nat.le_trans (Nat.mul_le_mul (by omega:i≤1000) (Nat.mul_le_mul (by omega:z2.toNat≤1000) (by omega:z3.toNat≤1000))) (by omega)
  ((iterate 2 refine zo ?_);(with_reducible apply AW.regionQ);exact rfl;exact rfl;kernel_rfl;(with_reducible assumption);refine j95 ?_;(focus ((with_reducible apply AOps.index_mapI);(iterate 7 exact rfl);omega;rotate_left;(first|omega|exact Nat.zero_lt_one|exact(by simp))));refine zr ?_;(focus ((with_reducible apply AOps.index_mapI);(iterate 7 exact rfl);omega;rotate_left;(first|omega|exact Nat.zero_lt_one|exact(by simp))));refine j146 ?_;show AOps .held _ _ _ [_,_,_,_,_,_] _ _;refine j153 ?_;intro k_ hk_;refine j280 ?_;intro g_ hgro_ hw_;refine j152 ?_;intro g_ hgro_;show AOps .held _ _ _ [_,_] _ _;refine j270 ?_;intro k_ hk_;refine nz ?_;refine j120 ?_;intro g_ hgro_ hwt2_;(with_reducible apply AOps.inline (hf:=Tryz.func83));(with_reducible assumption);(iterate 10 exact rfl);intro g_ hro_ hwt_;refine j277 ?_)
  rw[← hss1]
  refine AW.rangeFuncUH (ps:=[43]) (by assumption) (by assumption) rfl rfl Tryz.func102 rfl rfl rfl rfl rfl rfl (by decide) ?_
  intro gC tm1 l1 ps1 asg1 body1 hcode1 hroC hwtC hheld1 hupC htm1
  (refine j232 ?_;(with_reducible apply AW.regionQ);exact rfl;exact rfl;kernel_rfl;(with_reducible assumption);refine j27 ?_;refine zb ?_;(focus ((with_reducible apply AOps.index_mapI);(iterate 7 exact rfl);omega;rotate_left;(first|omega|exact Nat.zero_lt_one|exact(by simp))));refine zr ?_;refine zA (hff2) ?_;refine j58 ?_;refine zm ?_;refine j92 ?_)
  (refine nz ?_;apply AW.loopR [5,4,1,2,3,1006,1005,1004,1001,1002,1003,2007,2004] [13,12,11,10,9,8,7,6,5,4,3,1,0] (fun j:Nat=>([(6,litI (f2+j))]:List (Nat×AV))) (fun j:Nat=>([(2,some (.box [litI ss.length,.own 8 3 1 ((rksTo n 0 f i [(f2,z2.toNat),(f3,z3.toNat)]++rksTo n (0*n+(f+(i:Int))) f2 j [(f3,z3.toNat)]).map encI)]))]:List (Nat×Option Ob))) (fun j:Nat=>j≤z2.toNat) (fun j:Nat=>z2.toNat - j) (0);(conv=>lhs;simp only[Nf.lpR,Nf.all,Nat.reduceBEq,reduceAdd,reduceSub]);(all_goals skip))
  ·exact Nat.zero_le _
  ·exact j23
  rintro j hj
  by_cases hlt2:j<z2.toNat
  ·obtain⟨p2,hp2e⟩:∃p2,p2=(0*n+(f+(i:Int)))*n+(f2+(j:Int)):=⟨_,rfl⟩
   have hp2b:0≤p2∧p2≤1002001000:=by omega
   have hp3:0≤((0*n+(f+(i:Int)))*n+(f2+(j:Int)))*n∧((0*n+(f+(i:Int)))*n+(f2+(j:Int)))*n≤1002001000000:=by
    rw[← hp2e]
    exact⟨Int.mul_nonneg (by omega) (by omega),by
     have h1:=Int.mul_le_mul (by omega:p2≤1002001000) (by omega:n≤1000) (by omega) (by omega);omega⟩
   have hrs2:=rksTo_succ n (0*n+(f+(i:Int))) f2 j [(f3,z3.toNat)]
   have hrl2:(rksTo n (0*n+(f+(i:Int))) f2 j [(f3,z3.toNat)]).length≤1000000:=by
    rw[rksTo_len]
    have h1:j*cols [(f3,z3.toNat)]=j*z3.toNat:=by simp [cols]
    rw[h1]
    exact Nat.le_trans (Nat.mul_le_mul (by omega:j≤1000) (by omega:z3.toNat≤1000)) (by omega)
   have hpj:0≤(0*n+(f+(i:Int)))*n+(f2+(j:Int))∧(0*n+(f+(i:Int)))*n+(f2+(j:Int))≤20000000000:=by omega
   ((iterate 2 refine zo ?_);(with_reducible apply AW.regionQ);exact rfl;exact rfl;kernel_rfl;(with_reducible assumption);refine j95 ?_;(focus ((with_reducible apply AOps.index_mapI);(iterate 7 exact rfl);omega;rotate_left;(first|omega|exact Nat.zero_lt_one|exact(by simp))));refine zr ?_;(focus ((with_reducible apply AOps.index_mapI);(iterate 7 exact rfl);omega;rotate_left;(first|omega|exact Nat.zero_lt_one|exact(by simp))));refine j146 ?_;show AOps .held _ _ _ [_,_,_,_,_,_] _ _;refine j153 ?_;intro k_ hk_;refine j280 ?_;intro g_ hgro_ hw_;refine j152 ?_;intro g_ hgro_;show AOps .held _ _ _ [_,_] _ _;refine j270 ?_;intro k_ hk_;refine nz ?_;refine j120 ?_;intro g_ hgro_ hwt2_;(with_reducible apply AOps.inline (hf:=Tryz.func83));(with_reducible assumption);(iterate 10 exact rfl);intro g_ hro_ hwt_;refine j277 ?_)
   rw[← hss2]
   refine AW.rangeFuncUH (ps:=[43]) (by assumption) (by assumption) rfl rfl Tryz.func102 rfl rfl rfl rfl rfl rfl (by decide) ?_
   intro gD tm2 l2 ps2 asg2 body2 hcode2 hroD hwtD hheld2 hupD htm2
   (refine j232 ?_;(with_reducible apply AW.regionQ);exact rfl;exact rfl;kernel_rfl;(with_reducible assumption);refine j27 ?_;refine zb ?_;(focus ((with_reducible apply AOps.index_mapI);(iterate 7 exact rfl);omega;rotate_left;(first|omega|exact Nat.zero_lt_one|exact(by simp))));refine zr ?_;refine zA (hff3) ?_;refine j58 ?_;refine zm ?_;refine j92 ?_)
   (refine nz ?_;apply AW.loopR [5,4,1,2,3,1006,1005,1004,1001,1002,1003,2006,2005,2004,2001,2002,2003,3007,3004] [18,17,16,15,14,13,12,11,10,9,8,7,6,5,4,3,1,0] (fun q:Nat=>([(6,litI (f3+q))]:List (Nat×AV))) (fun q:Nat=>([(2,some (.box [litI ss.length,.own 8 3 1 ((rksTo n 0 f i [(f2,z2.toNat),(f3,z3.toNat)]++(rksTo n (0*n+(f+(i:Int))) f2 j [(f3,z3.toNat)]++rksTo n ((0*n+(f+(i:Int)))*n+(f2+(j:Int))) f3 q [])).map encI)]))]:List (Nat×Option Ob))) (fun q:Nat=>q≤z3.toNat) (fun q:Nat=>z3.toNat - q) (0);(conv=>lhs;simp only[Nf.lpR,Nf.all,Nat.reduceBEq,reduceAdd,reduceSub]);(all_goals skip))
   ·exact Nat.zero_le _
   ·exact weak rfl (by(refine⟨.intE (by first|rfl|simp [rksTo_zero]),?_⟩;refine⟨.intE (by first|rfl|simp [rksTo_zero]),?_⟩;(iterate 4 refine⟨.eq rfl rfl,?_⟩);(iterate 2 refine⟨.intE (by first|rfl|simp [rksTo_zero]),?_⟩);(iterate 4 refine⟨.eq rfl rfl,?_⟩);(iterate 2 refine⟨.intE (by first|rfl|simp [rksTo_zero]),?_⟩);(iterate 6 refine⟨.eq rfl rfl,?_⟩);exact trivial)) (by(refine⟨.box _ rfl ?_,?_⟩;refine⟨.intE (by first|rfl|simp [rksTo_zero]),?_⟩;refine⟨.ownE (by first|rfl|simp [rksTo_zero]) rfl,?_⟩;exact trivial;refine⟨.box _ rfl ?_,?_⟩;refine⟨.eq rfl rfl,?_⟩;exact trivial;refine⟨.loop rfl,?_⟩;refine⟨.box _ rfl ?_,?_⟩;refine⟨.pvE (by first|rfl|simp [rksTo_zero]),?_⟩;exact trivial;refine⟨.box _ rfl ?_,?_⟩;refine⟨.intE (by first|rfl|simp [rksTo_zero]),?_⟩;exact trivial;refine⟨.box _ rfl ?_,?_⟩;refine⟨.pvE (by first|rfl|simp [rksTo_zero]),?_⟩;refine⟨.intE (by first|rfl|simp [rksTo_zero]),?_⟩;exact trivial;refine⟨.box _ rfl ?_,?_⟩;refine⟨.eq rfl rfl,?_⟩;exact trivial;refine⟨.loop rfl,?_⟩;refine⟨.box _ rfl ?_,?_⟩;refine⟨.pvE (by first|rfl|simp [rksTo_zero]),?_⟩;exact trivial;refine⟨.box _ rfl ?_,?_⟩;refine⟨.intE (by first|rfl|simp [rksTo_zero]),?_⟩;exact trivial;refine⟨.box _ rfl ?_,?_⟩;refine⟨.pvE (by first|rfl|simp [rksTo_zero]),?_⟩;refine⟨.intE (by first|rfl|simp [rksTo_zero]),?_⟩;exact trivial;refine⟨.row rfl,?_⟩;refine⟨.box _ rfl ?_,?_⟩;refine⟨.eq rfl rfl,?_⟩;exact trivial;refine⟨.loop rfl,?_⟩;refine⟨.box _ rfl ?_,?_⟩;refine⟨.pvE (by first|rfl|simp [rksTo_zero]),?_⟩;exact trivial;refine⟨.box _ rfl ?_,?_⟩;refine⟨.intE (by first|rfl|simp [rksTo_zero]),?_⟩;exact trivial;refine⟨.box _ rfl ?_,?_⟩;refine⟨.pvE (by first|rfl|simp [rksTo_zero]),?_⟩;refine⟨.intE (by first|rfl|simp [rksTo_zero]),?_⟩;exact trivial;refine⟨.box _ rfl ?_,?_⟩;refine⟨.intE (by first|rfl|simp [rksTo_zero]),?_⟩;refine⟨.eq rfl rfl,?_⟩;exact trivial;refine⟨.box _ rfl ?_,?_⟩;refine⟨.pvE (by first|rfl|simp [rksTo_zero]),?_⟩;refine⟨.intE (by first|rfl|simp [rksTo_zero]),?_⟩;(iterate 2 exact trivial))) rfl
   rintro q hq
   by_cases hlt3:q<z3.toNat
   ·have hrs3:=rksTo_succ n ((0*n+(f+(i:Int)))*n+(f2+(j:Int))) f3 q []
    have hrl3:(rksTo n ((0*n+(f+(i:Int)))*n+(f2+(j:Int))) f3 q []).length≤1000:=by rw[rksTo_len];simp [cols];omega
    ((iterate 2 refine zo ?_);(with_reducible apply AW.regionQ);exact rfl;exact rfl;kernel_rfl;(with_reducible assumption);refine j95 ?_;(focus ((with_reducible apply AOps.index_mapI);(iterate 7 exact rfl);omega;rotate_left;(first|omega|exact Nat.zero_lt_one|exact(by simp))));refine zr ?_;(focus ((with_reducible apply AOps.index_mapI);(iterate 7 exact rfl);omega;rotate_left;(first|omega|exact Nat.zero_lt_one|exact(by simp))));refine j146 ?_;show AOps .held _ _ _ [_,_,_,_,_,_] _ _;refine j153 ?_;intro k_ hk_;refine j280 ?_;intro g_ hgro_ hw_;refine j152 ?_;intro g_ hgro_;show AOps .held _ _ _ [_,_] _ _;refine j270 ?_;intro k_ hk_;refine nz ?_;refine j120 ?_;intro g_ hgro_ hwt2_;(with_reducible apply AOps.inline (hf:=Tryz.func83));(with_reducible assumption);(iterate 10 exact rfl);intro g_ hro_ hwt_;refine j277 ?_)
    rw[hss3]
    refine AW.rangeFuncUH (ps:=[43]) (by assumption) (by assumption) rfl rfl Tryz.func102 rfl rfl rfl rfl rfl rfl (by decide) ?_
    intro gE tm3 l3 ps3 asg3 body3 hcode3 hroE hwtE hheld3 hupE htm3
    have htm3':tm3.size=48:=htm3
    have htm2':tm2.size=48:=htm2
    have htm1':tm1.size=48:=htm1
    have htm0':tm0.size=43:=htm0
    (refine j2 ?_;refine j40 ?_;refine zd ?_;refine j118 ?_;refine j154 ?_;refine j2 ?_;(iterate 2 refine zb ?_);(with_reducible apply AOps.yieldN0 hcode3 hwtE hheld3 htm3');(iterate 8 exact rfl);intro gR hroR_ hwtR hupR;refine j213 ?_;refine And.intro (show isLp _ _ _ _ from⟨_,_,_,_,rfl⟩) ?_;refine j281 ?_;refine zm ?_;(with_reducible apply AOps.yieldN2 hcode2 hwtR (fun j hj=>(congrArg gR.held (show j+HS+2*HS=j+HS+HS+HS by omega)).trans ((hupR (j+HS)).trans ((hupE j).trans (hheld2 j hj)))) htm2');(iterate 8 exact rfl);intro gS hroS_ hwtS hupS;refine j213 ?_;refine And.intro (show isLp _ _ _ _ from⟨_,_,_,_,rfl⟩) ?_;refine j281 ?_;refine zm ?_;(with_reducible apply AOps.yieldN4 hcode1 hwtS (fun j hj=>(congrArg gS.held (show j+HS+4*HS=j+HS+HS+HS+HS+HS by omega)).trans ((hupS (j+HS+HS+HS)).trans ((hupR (j+HS+HS)).trans ((hupE (j+HS)).trans ((hupD j).trans (hheld1 j hj)))))) htm1');(iterate 8 exact rfl);intro gT hroT_ hwtT hupT;refine j213 ?_;refine And.intro (show isLp _ _ _ _ from⟨_,_,_,_,rfl⟩) ?_;refine j281 ?_;refine zm ?_;(with_reducible apply AOps.yieldN6 hcode0 hwtT (fun j hj=>(congrArg gT.held (show j+HS+6*HS=j+HS+HS+HS+HS+HS+HS+HS by omega)).trans ((hupT (j+HS+HS+HS+HS+HS)).trans ((hupS (j+HS+HS+HS+HS)).trans ((hupR (j+HS+HS+HS)).trans ((hupE (j+HS+HS)).trans ((hupD (j+HS)).trans ((hupC j).trans (hheld0 j hj)))))))) htm0');(iterate 8 exact rfl);intro gU hroU_ hwtU hupU;refine j213 ?_;refine And.intro (show isLp _ _ _ _ from⟨_,_,_,_,rfl⟩) ?_;refine j363 ?_;(with_reducible apply AOps.appendS);exact rfl;(first|exact .pv rfl|exact .own rfl|exact .nil rfl);(iterate 9 exact rfl);(first|omega|(simp only[List.length_map,List.length_append,List.length_cons,List.length_nil,List.length_drop,List.length_take,List.length_set,chunk_len];omega));refine nz ?_;refine j289 ?_;refine AOps.nil ?_;refine inBlockD_n ?_;(with_reducible apply roundEndsN_n);exact⟨_,_,_,_,rfl⟩;refine j269 ?_;(with_reducible apply roundEndsN_n);exact⟨_,_,_,_,rfl⟩;refine j269 ?_;(with_reducible apply roundEndsN_n);exact⟨_,_,_,_,rfl⟩;refine j269 ?_;(with_reducible apply roundEndsN_n);exact⟨_,_,_,_,rfl⟩;refine nz ?_;refine j328 ?_;refine thenD_ret ?_;refine iterEndsN_ready (.inr rfl) rfl ?_;(try refine nz ?_);refine j161 ?_;refine j348 ?_)
    exact⟨q+1,by omega,by omega,weak rfl (by(refine⟨.intE (by first|rfl|(push_cast;omega)|(rw[hrs3,rks_nil,← List.append_assoc,← List.append_assoc,← List.append_assoc,List.map_append (l₂:=[_])];rfl)),?_⟩;refine⟨.intE (by first|rfl|(push_cast;omega)|(rw[hrs3,rks_nil,← List.append_assoc,← List.append_assoc,← List.append_assoc,List.map_append (l₂:=[_])];rfl)),?_⟩;(iterate 4 refine⟨.eq rfl rfl,?_⟩);refine⟨.intE (by first|rfl|(push_cast;omega)|(rw[hrs3,rks_nil,← List.append_assoc,← List.append_assoc,← List.append_assoc,List.map_append (l₂:=[_])];rfl)),?_⟩;refine⟨.intE (by first|rfl|(push_cast;omega)|(rw[hrs3,rks_nil,← List.append_assoc,← List.append_assoc,← List.append_assoc,List.map_append (l₂:=[_])];rfl)),?_⟩;(iterate 4 refine⟨.eq rfl rfl,?_⟩);refine⟨.intE (by first|rfl|(push_cast;omega)|(rw[hrs3,rks_nil,← List.append_assoc,← List.append_assoc,← List.append_assoc,List.map_append (l₂:=[_])];rfl)),?_⟩;refine⟨.intE (by first|rfl|(push_cast;omega)|(rw[hrs3,rks_nil,← List.append_assoc,← List.append_assoc,← List.append_assoc,List.map_append (l₂:=[_])];rfl)),?_⟩;(iterate 6 refine⟨.eq rfl rfl,?_⟩);exact trivial)) (by(refine⟨.box _ rfl ?_,?_⟩;refine⟨.intE (by first|rfl|(push_cast;omega)|(rw[hrs3,rks_nil,← List.append_assoc,← List.append_assoc,← List.append_assoc,List.map_append (l₂:=[_])];rfl)),?_⟩;refine⟨.ownE (by first|rfl|(push_cast;omega)|(rw[hrs3,rks_nil,← List.append_assoc,← List.append_assoc,← List.append_assoc,List.map_append (l₂:=[_])];rfl)) rfl,?_⟩;exact trivial;refine⟨.box _ rfl ?_,?_⟩;refine⟨.eq rfl rfl,?_⟩;exact trivial;refine⟨.loop rfl,?_⟩;refine⟨.box _ rfl ?_,?_⟩;refine⟨.pvE (by first|rfl|(push_cast;omega)|(rw[hrs3,rks_nil,← List.append_assoc,← List.append_assoc,← List.append_assoc,List.map_append (l₂:=[_])];rfl)),?_⟩;exact trivial;refine⟨.box _ rfl ?_,?_⟩;refine⟨.intE (by first|rfl|(push_cast;omega)|(rw[hrs3,rks_nil,← List.append_assoc,← List.append_assoc,← List.append_assoc,List.map_append (l₂:=[_])];rfl)),?_⟩;exact trivial;refine⟨.box _ rfl ?_,?_⟩;refine⟨.pvE (by first|rfl|(push_cast;omega)|(rw[hrs3,rks_nil,← List.append_assoc,← List.append_assoc,← List.append_assoc,List.map_append (l₂:=[_])];rfl)),?_⟩;refine⟨.intE (by first|rfl|(push_cast;omega)|(rw[hrs3,rks_nil,← List.append_assoc,← List.append_assoc,← List.append_assoc,List.map_append (l₂:=[_])];rfl)),?_⟩;exact trivial;refine⟨.box _ rfl ?_,?_⟩;refine⟨.eq rfl rfl,?_⟩;exact trivial;refine⟨.loop rfl,?_⟩;refine⟨.box _ rfl ?_,?_⟩;refine⟨.pvE (by first|rfl|(push_cast;omega)|(rw[hrs3,rks_nil,← List.append_assoc,← List.append_assoc,← List.append_assoc,List.map_append (l₂:=[_])];rfl)),?_⟩;exact trivial;refine⟨.box _ rfl ?_,?_⟩;refine⟨.intE (by first|rfl|(push_cast;omega)|(rw[hrs3,rks_nil,← List.append_assoc,← List.append_assoc,← List.append_assoc,List.map_append (l₂:=[_])];rfl)),?_⟩;exact trivial;refine⟨.box _ rfl ?_,?_⟩;refine⟨.pvE (by first|rfl|(push_cast;omega)|(rw[hrs3,rks_nil,← List.append_assoc,← List.append_assoc,← List.append_assoc,List.map_append (l₂:=[_])];rfl)),?_⟩;refine⟨.intE (by first|rfl|(push_cast;omega)|(rw[hrs3,rks_nil,← List.append_assoc,← List.append_assoc,← List.append_assoc,List.map_append (l₂:=[_])];rfl)),?_⟩;exact trivial;refine⟨.row rfl,?_⟩;refine⟨.box _ rfl ?_,?_⟩;refine⟨.eq rfl rfl,?_⟩;exact trivial;refine⟨.loop rfl,?_⟩;refine⟨.box _ rfl ?_,?_⟩;refine⟨.pvE (by first|rfl|(push_cast;omega)|(rw[hrs3,rks_nil,← List.append_assoc,← List.append_assoc,← List.append_assoc,List.map_append (l₂:=[_])];rfl)),?_⟩;exact trivial;refine⟨.box _ rfl ?_,?_⟩;refine⟨.intE (by first|rfl|(push_cast;omega)|(rw[hrs3,rks_nil,← List.append_assoc,← List.append_assoc,← List.append_assoc,List.map_append (l₂:=[_])];rfl)),?_⟩;exact trivial;refine⟨.box _ rfl ?_,?_⟩;refine⟨.pvE (by first|rfl|(push_cast;omega)|(rw[hrs3,rks_nil,← List.append_assoc,← List.append_assoc,← List.append_assoc,List.map_append (l₂:=[_])];rfl)),?_⟩;refine⟨.intE (by first|rfl|(push_cast;omega)|(rw[hrs3,rks_nil,← List.append_assoc,← List.append_assoc,← List.append_assoc,List.map_append (l₂:=[_])];rfl)),?_⟩;exact trivial;refine⟨.box _ rfl ?_,?_⟩;refine⟨.intE (by first|rfl|(push_cast;omega)|(rw[hrs3,rks_nil,← List.append_assoc,← List.append_assoc,← List.append_assoc,List.map_append (l₂:=[_])];rfl)),?_⟩;refine⟨.eq rfl rfl,?_⟩;exact trivial;refine⟨.box _ rfl ?_,?_⟩;refine⟨.pvE (by first|rfl|(push_cast;omega)|(rw[hrs3,rks_nil,← List.append_assoc,← List.append_assoc,← List.append_assoc,List.map_append (l₂:=[_])];rfl)),?_⟩;refine⟨.intE (by first|rfl|(push_cast;omega)|(rw[hrs3,rks_nil,← List.append_assoc,← List.append_assoc,← List.append_assoc,List.map_append (l₂:=[_])];rfl)),?_⟩;(iterate 2 exact trivial))) rfl⟩
   ·obtain rfl:q=z3.toNat:=by omega
    ((iterate 2 refine zo ?_);(with_reducible apply AW.regionQ);exact rfl;exact rfl;kernel_rfl;(with_reducible assumption);refine j95 ?_;(focus ((with_reducible apply AOps.index_mapI);(iterate 7 exact rfl);omega;rotate_left;(first|omega|exact Nat.zero_lt_one|exact(by simp))));refine zr ?_;(focus ((with_reducible apply AOps.index_mapI);(iterate 7 exact rfl);omega;rotate_left;(first|omega|exact Nat.zero_lt_one|exact(by simp))));refine j170 ?_;refine j161 ?_;refine j348 ?_)
    exact⟨j+1,by omega,by omega,weak rfl (by(refine⟨.intE (by first|rfl|(push_cast;omega)|(rw[hrs2,rks_cons])),?_⟩;refine⟨.intE (by first|rfl|(push_cast;omega)|(rw[hrs2,rks_cons])),?_⟩;(iterate 4 refine⟨.eq rfl rfl,?_⟩);refine⟨.intE (by first|rfl|(push_cast;omega)|(rw[hrs2,rks_cons])),?_⟩;refine⟨.intE (by first|rfl|(push_cast;omega)|(rw[hrs2,rks_cons])),?_⟩;(iterate 6 refine⟨.eq rfl rfl,?_⟩);exact trivial)) (by(refine⟨.box _ rfl ?_,?_⟩;refine⟨.intE (by first|rfl|(push_cast;omega)|(rw[hrs2,rks_cons])),?_⟩;refine⟨.ownE (by first|rfl|(push_cast;omega)|(rw[hrs2,rks_cons])) rfl,?_⟩;exact trivial;refine⟨.box _ rfl ?_,?_⟩;refine⟨.eq rfl rfl,?_⟩;exact trivial;refine⟨.loop rfl,?_⟩;refine⟨.box _ rfl ?_,?_⟩;refine⟨.pvE (by first|rfl|(push_cast;omega)|(rw[hrs2,rks_cons])),?_⟩;exact trivial;refine⟨.box _ rfl ?_,?_⟩;refine⟨.intE (by first|rfl|(push_cast;omega)|(rw[hrs2,rks_cons])),?_⟩;exact trivial;refine⟨.box _ rfl ?_,?_⟩;refine⟨.pvE (by first|rfl|(push_cast;omega)|(rw[hrs2,rks_cons])),?_⟩;refine⟨.intE (by first|rfl|(push_cast;omega)|(rw[hrs2,rks_cons])),?_⟩;exact trivial;refine⟨.row rfl,?_⟩;refine⟨.box _ rfl ?_,?_⟩;refine⟨.eq rfl rfl,?_⟩;exact trivial;refine⟨.loop rfl,?_⟩;refine⟨.box _ rfl ?_,?_⟩;refine⟨.pvE (by first|rfl|(push_cast;omega)|(rw[hrs2,rks_cons])),?_⟩;exact trivial;refine⟨.box _ rfl ?_,?_⟩;refine⟨.intE (by first|rfl|(push_cast;omega)|(rw[hrs2,rks_cons])),?_⟩;exact trivial;refine⟨.box _ rfl ?_,?_⟩;refine⟨.pvE (by first|rfl|(push_cast;omega)|(rw[hrs2,rks_cons])),?_⟩;refine⟨.intE (by first|rfl|(push_cast;omega)|(rw[hrs2,rks_cons])),?_⟩;exact trivial;refine⟨.box _ rfl ?_,?_⟩;refine⟨.intE (by first|rfl|(push_cast;omega)|(rw[hrs2,rks_cons])),?_⟩;refine⟨.eq rfl rfl,?_⟩;exact trivial;refine⟨.box _ rfl ?_,?_⟩;refine⟨.pvE (by first|rfl|(push_cast;omega)|(rw[hrs2,rks_cons])),?_⟩;refine⟨.intE (by first|rfl|(push_cast;omega)|(rw[hrs2,rks_cons])),?_⟩;(iterate 2 exact trivial))) rfl⟩
  ·obtain rfl:j=z2.toNat:=by omega
   ((iterate 2 refine zo ?_);(with_reducible apply AW.regionQ);exact rfl;exact rfl;kernel_rfl;(with_reducible assumption);refine j95 ?_;(focus ((with_reducible apply AOps.index_mapI);(iterate 7 exact rfl);omega;rotate_left;(first|omega|exact Nat.zero_lt_one|exact(by simp))));refine zr ?_;(focus ((with_reducible apply AOps.index_mapI);(iterate 7 exact rfl);omega;rotate_left;(first|omega|exact Nat.zero_lt_one|exact(by simp))));refine j170 ?_;refine j161 ?_;refine j348 ?_)
   exact j36
 ·obtain rfl:i=z.toNat:=by omega
  ((iterate 2 refine zo ?_);(with_reducible apply AW.regionQ);exact rfl;exact rfl;kernel_rfl;(with_reducible assumption);refine j95 ?_;(focus ((with_reducible apply AOps.index_mapI);(iterate 7 exact rfl);omega;rotate_left;(first|omega|exact Nat.zero_lt_one|exact(by simp))));refine zr ?_;(focus ((with_reducible apply AOps.index_mapI);(iterate 7 exact rfl);omega;rotate_left;(first|omega|exact Nat.zero_lt_one|exact(by simp))));refine j170 ?_;refine j266 ?_;refine zq ?_;refine j27 ?_;refine j155 ?_;refine j328 ?_)
  (apply ends_ret;(exact Res.one (.cell rfl rfl rfl rfl));(refine Le.aggL ?_;refine LeL.cons ?_ ?_;refine Le.litI ?_;(first|rfl|(rw[hl];rfl)|(rw[rks_cons]));refine LeL.cons ?_ ?_;refine Le.ownE ?_;(first|rfl|(rw[hl];rfl)|(rw[rks_cons]));exact LeL.nil))
end Go.Ab
/- Chapter 07:a field's columns. -/
namespace Go.Ab
open Go Go.Proofs
set_option maxRecDepth 20000
set_option maxHeartbeats 8000000
attribute [local irreducible] AW AOps thenD inBlockD AR iterEnds roundEndsN inlEnds noGotoD
abbrev fld (f:FieldM):AV:=.agg [.pv (.lit (.string f.name)),.pv (ints f.sorts),litB f.var]
def insB (k:Nat) (l:List Int):Bool:=l.all fun s=>decide (0≤s∧s<k)
theorem insB_drop {k:Nat} {l:List Int} {j:Nat} (hj:j<l.length):insB k (l.drop j)=(decide (0≤l[j]∧l[j]<k) && insB k (l.drop (j+1))):=by
 rw[List.drop_eq_getElem_cons hj];rfl
def colsB (k:Nat) (l:List Int):Bool:=decide (1≤l.length∧l.length≤3) && insB k l
theorem columns_fn (s:SpecM) (f:FieldM):Fn Tryz.prog 47 [spc s,fld f] (litB (colsB s.sorts.length f.sorts)):=by
 obtain⟨so,fs,p,q⟩:=s
 obtain⟨nm,l,v⟩:=f
 unfold colsB
 simp only
 by_cases h1:1≤l.length∧l.length≤3
 ·rw[decide_eq_true h1,Bool.true_and]
  refine Fn.enter (n:=20) Tryz.func47 rfl rfl rfl rfl rfl (by decide) fun g hro_ hwt_=>?_;(try refine nz ?_)
  (refine j131 ?_;refine j57 ?_;refine zn ?_;refine zs ?_;refine j85 ?_;refine AOps.fieldAddrN 52 1 1 rfl rfl rfl rfl ?_;refine j138 ?_;refine j84 ?_;refine j166 ?_;refine j2 ?_;refine j57 ?_;refine AOps.makeFunc_c rfl rfl rfl ?_;(with_reducible apply AOps.inline (hf:=Tryz.func79));(with_reducible assumption);(iterate 10 exact rfl);intro g_ hro_ hwt_;refine nz ?_;refine j235 ?_;refine zm ?_;refine AOps.move_clo rfl rfl rfl ?_;(with_reducible apply AOps.inline (hf:=Tryz.func97));(with_reducible assumption);(iterate 10 exact rfl);intro g_ hro_ hwt_;refine nz ?_;refine j267 ?_;refine j97 ?_)
  refine AW.loop (fun(k:Nat)=>{n:=19,env:=[(0,.pv (ints l)),(1,.clo (.func 80) [] [.ptr 0 0]),(7,litI l.length),(8,litI k)],objs:=[(0,some (.box [.pv (.slice 2 (so.map encSo)),.pv (.slice 3 (fs.map encF)),slv p,slv q]))],nx:=2}) (fun k=>k≤l.length∧insB so.length l=insB so.length (l.drop k)) (fun k=>l.length - k) 0 ?_ ?_ ?_
  ·exact⟨Nat.zero_le _,rfl⟩
  ·exact weak rfl (by(refine⟨.eq rfl rfl,?_⟩;(iterate 3 refine⟨.eq rfl rfl,?_⟩);exact trivial)) (by(refine⟨.box _ rfl ?_,?_⟩;(iterate 4 refine⟨.eq rfl rfl,?_⟩);(iterate 2 exact trivial))) rfl
  rintro k ⟨hk,he⟩
  by_cases hlt:k<l.length
  ·rw[insB_drop hlt] at he
   by_cases h2:0≤l[k]∧l[k]<so.length
   ·rw[decide_eq_true h2,Bool.true_and] at he
    (refine j303 ?_;refine j58 ?_;refine AOps.move_clo rfl rfl rfl ?_;(iterate 2 refine zm ?_);(focus ((with_reducible apply AOps.index_map);(iterate 7 exact rfl);rotate_left;omega));refine zr ?_;(with_reducible apply AOps.inline (hf:=Tryz.func80));(with_reducible assumption);(iterate 10 exact rfl);intro g_ hro_ hwt_;refine nz ?_;refine j235 ?_;refine zm ?_;refine zs ?_;refine j12 ?_;refine j93 ?_;refine j74 ?_;refine j11 ?_;refine inlEnds_rpv rfl rfl ?_;refine nz ?_;refine zd ?_;refine zk ?_;refine AW.skip ?_;refine j8 ?_;refine j279 ?_)
    exact⟨k+1,⟨by omega,he⟩,by omega,weak rfl (by(refine⟨.eq rfl rfl,?_⟩;(iterate 3 refine⟨.eq rfl rfl,?_⟩);exact trivial)) (by(refine⟨.box _ rfl ?_,?_⟩;(iterate 4 refine⟨.eq rfl rfl,?_⟩);(iterate 2 exact trivial))) rfl⟩
   ·rw[decide_eq_false h2,Bool.false_and] at he
    (refine j303 ?_;refine j58 ?_;refine AOps.move_clo rfl rfl rfl ?_;(iterate 2 refine zm ?_);(focus ((with_reducible apply AOps.index_map);(iterate 7 exact rfl);rotate_left;omega));refine zr ?_;(with_reducible apply AOps.inline (hf:=Tryz.func80));(with_reducible assumption);(iterate 10 exact rfl);intro g_ hro_ hwt_;refine nz ?_;refine j235 ?_;refine zm ?_;refine j353 ?_;(focus ((with_reducible apply AOps.guardF);(iterate 6 exact rfl);all_goals intro hc_));refine j85 ?_;refine j93 ?_;refine j74 ?_;refine j11 ?_;refine inlEnds_rpv rfl rfl ?_;refine nz ?_;refine j340 ?_;refine zq ?_;refine zm ?_;refine j11 ?_;refine j10 ?_;refine j233 ?_;(all_goals skip);rotate_left;refine j176 ?_;refine zT ?_;refine j11 ?_;refine inlEnds_rpv rfl rfl ?_;refine nz ?_;refine j154 ?_;refine zq ?_;refine zm ?_;refine j11 ?_;refine j10 ?_;refine j233 ?_;(all_goals skip);rotate_left)
    all_goals (apply ends_ret;(exact Res.one (.tmp rfl rfl));(refine Le.litB ?_;(exact he.symm)))
  ·rw[List.drop_eq_nil_of_le (by omega)] at he
   (refine j215 ?_;refine j11 ?_;refine j233 ?_)
   (apply ends_ret;(exact Res.one (.tmp rfl rfl));(refine Le.litB ?_;(exact he.symm)))
 ·rw[decide_eq_false h1,Bool.false_and]
  refine Fn.enter (n:=20) Tryz.func47 rfl rfl rfl rfl rfl (by decide) fun g hro_ hwt_=>?_;(try refine nz ?_)
  (refine j131 ?_;refine j57 ?_;refine zn ?_;refine j353 ?_;(focus ((with_reducible apply AOps.guardF);(iterate 6 exact rfl);all_goals intro hc_));refine AOps.fieldAddrN 52 1 1 rfl rfl rfl rfl ?_;refine j138 ?_;refine j84 ?_;refine j268 ?_;(all_goals skip);rotate_left;refine j110 ?_;refine j148 ?_;(all_goals skip);rotate_left)
  all_goals (apply ends_ret;(exact Res.one (.tmp rfl rfl));(refine Le.litB ?_;(rfl)))
end Go.Ab
/- Chapter 07:model.Valid,walked over whatever contract universe.Full has at the specification's fields. -/
namespace Go.Ab
open Go Go.Proofs
set_option maxRecDepth 20000
set_option maxHeartbeats 16000000
attribute [local irreducible] AW AOps thenD inBlockD AR iterEnds roundEndsN inlEnds noGotoD
theorem incrB_len {top:Int}:∀{l:List Int} {last:Int},last<top→incrB top last l=true→(l.length:Int)<top - last
 |[],last,h,_=>by simp;omega
 |t::l,last,_,h=>by
  unfold incrB at h
  rw[Bool.and_eq_true,decide_eq_true_eq] at h
  have:=incrB_len h.1.2 h.2
  simp only[List.length_cons]
  push_cast
  omega
theorem relOk_len {n:Int} {r:RelM} (h:relOk n r=true):r.2.length≤1728:=by
 unfold relOk at h
 rw[Bool.and_eq_true,decide_eq_true_eq] at h
 obtain⟨⟨h1,h2,h3,h4⟩,h5⟩:=h
 have hb:n ^ r.1.toNat≤1728∧0≤n ^ r.1.toNat:=by
  obtain⟨k,rfl⟩:∃k:Nat,n=k:=⟨n.toNat,by omega⟩
  have hk:k≤12:=by omega
  have he:r.1.toNat≤3:=by omega
  generalize r.1.toNat=e at he
  have h6:k ^ e≤12 ^ 3:=Nat.le_trans (Nat.pow_le_pow_left hk e) (Nat.pow_le_pow_right (by omega) he)
  rw[← Int.natCast_pow]
  constructor
  ·exact_mod_cast h6
  ·omega
 by_cases h7:(-1:Int)<n ^ r.1.toNat
 ·have:=incrB_len h7 h5
  omega
 ·omega
def cellB (n:Int) (full:List Int→RelM) (f:FieldM) (r r0:RelM):Bool:=decide (r.1=f.sorts.length) && (relOk n r && (subL r.2 (full f.sorts).2 && (f.var||decide (r=r0))))
def cellsB (n:Int) (full:List Int→RelM):List FieldM→List RelM→List RelM→Bool
 |f::fs,r::s,r0::s0=>cellB n full f r r0 && cellsB n full fs s s0
 |_,_,_=>true
theorem cellsB_drop {n:Int} {full:List Int→RelM} {fs:List FieldM} {s s0:List RelM} {k:Nat} (h1:k<fs.length) (h2:k<s.length) (h3:k<s0.length):
  cellsB n full (fs.drop k) (s.drop k) (s0.drop k)=(cellB n full fs[k] s[k] s0[k] && cellsB n full (fs.drop (k+1)) (s.drop (k+1)) (s0.drop (k+1))):=by
 rw[List.drop_eq_getElem_cons h1,List.drop_eq_getElem_cons h2,List.drop_eq_getElem_cons h3];rfl
def stateB (n:Int) (full:List Int→RelM) (fs:List FieldM) (s0 s:List RelM):Bool:=decide (s.length=fs.length) && cellsB n full fs s s0
def fieldsB (k:Nat) (l:List FieldM):Bool:=l.all fun f=>colsB k f.sorts
theorem fieldsB_drop {k:Nat} {l:List FieldM} {j:Nat} (hj:j<l.length):fieldsB k (l.drop j)=(colsB k l[j].sorts && fieldsB k (l.drop (j+1))):=by
 rw[List.drop_eq_getElem_cons hj];rfl
def statesB (n:Int) (full:List Int→RelM) (fs:List FieldM) (s0:List RelM) (l:List (List RelM)):Bool:=l.all (stateB n full fs s0)
theorem statesB_drop {n:Int} {full:List Int→RelM} {fs:List FieldM} {s0:List RelM} {l:List (List RelM)} {j:Nat} (hj:j<l.length):statesB n full fs s0 (l.drop j)=(stateB n full fs s0 l[j] && statesB n full fs s0 (l.drop (j+1))):=by
 rw[List.drop_eq_getElem_cons hj];rfl
def shapeB (m:ModM):Bool:=decide ((m.states.length:Int)=m.steps∧0≤m.loop∧m.loop<m.states.length)
def validB (full:List Int→RelM) (s:SpecM) (m:ModM):Bool:=
 scopeOk s.sorts.length m.atoms m.steps && (shapeB m && (fieldsB s.sorts.length s.fields && statesB m.atoms.sum full s.fields (m.states.headD []) m.states))
theorem scopeOk_spec {k:Nat} {at':List Int} {st:Int} (h:scopeOk k at' st=true):k≤4∧at'.length=k∧1≤st∧st≤4∧sizesOk at'=true∧at'.sum≤12∧SmA at':=by
 unfold scopeOk at h
 simp only[Bool.and_eq_true,decide_eq_true_eq] at h
 obtain⟨⟨⟨h1,h2,h3,h4⟩,h5⟩,h6⟩:=h
 exact⟨h1,h2,h3,h4,h5,h6,sizesOk_sm h5 (by omega)⟩
theorem valid_fn (full:List Int→RelM) (s:SpecM) (m:ModM) (hfs:s.fields.length≤1000)
  (hfull:scopeOk s.sorts.length m.atoms m.steps=true→∀f∈s.fields,colsB s.sorts.length f.sorts=true→(full f.sorts).2.length≤1000000∧Fn Tryz.prog 50 [scp m.atoms m.steps,.pv (ints f.sorts)] (relA (full f.sorts))):
  Fn Tryz.prog 15 [spc s,mdl m] (litB (validB full s m)):=by
 obtain⟨so,fs,p,q⟩:=s
 obtain⟨at',st,ss,lp⟩:=m
 simp only at hfs hfull ⊢
 unfold validB
 simp only
 have hu:=uValid_fn ⟨so,fs,p,q⟩ at' st
 simp only at hu
 cases hsc:scopeOk so.length at' st with
 |false=>
  rw[hsc] at hu
  rw[Bool.false_and]
  refine Fn.enter (n:=119) Tryz.func15 rfl rfl rfl rfl rfl (by decide) fun g hro_ hwt_=>?_;(try refine nz ?_)
  (refine j131 ?_;refine j100 ?_;(with_reducible apply AOps.load_bs);(iterate 3 exact rfl);(repeat' first|exact Sub.nil|apply Sub.take|apply Sub.skip);(iterate 3 exact rfl);refine AOps.call (hu) (.cons rfl (.aggL (.cons (.pv _) (.cons (.pv _) (.cons (.pv _) (.cons (.pv _) .nil))))) (.cons rfl (.aggL (.cons (.pv _) (.cons (.pv _) .nil))) .nil)) rfl rfl (fun h_=>by cases h_) ?_;refine j145 ?_;refine j150 ?_;refine j129 ?_;refine j113 ?_;refine j129 ?_;refine j298 ?_)
  (apply ends_ret;(exact Res.one (.tmp rfl rfl));(refine Le.litB ?_;(rfl)))
 |true=>
 rw[hsc] at hu
 rw[Bool.true_and]
 have hfull:=hfull hsc
 obtain⟨hs1,hs2,hs3,hs4,hs5,hs6,hsm⟩:=scopeOk_spec hsc
 clear hsc
 have hss:=hsm.take at'.length
 rw[List.take_length] at hss
 have ha:=atoms_fn at' st hsm
 generalize hn:at'.sum=n at ha hs6 hss ⊢
 by_cases h1:(ss.length:Int)=st∧0≤lp∧lp<ss.length
 ·have e1:shapeB ⟨at',st,ss,lp⟩=true:=decide_eq_true h1
  obtain⟨h11,h12,h13⟩:=h1
  rw[e1,Bool.true_and]
  clear e1
  refine Fn.enter (n:=119) Tryz.func15 rfl rfl rfl rfl rfl (by decide) fun g hro_ hwt_=>?_;(try refine nz ?_)
  (refine j131 ?_;refine j100 ?_;(with_reducible apply AOps.load_bs);(iterate 3 exact rfl);(repeat' first|exact Sub.nil|apply Sub.take|apply Sub.skip);(iterate 3 exact rfl);refine AOps.call (hu) (.cons rfl (.aggL (.cons (.pv _) (.cons (.pv _) (.cons (.pv _) (.cons (.pv _) .nil))))) (.cons rfl (.aggL (.cons (.pv _) (.cons (.pv _) .nil))) .nil)) rfl rfl (fun h_=>by cases h_) ?_;refine j107 ?_;refine j85 ?_;refine j117 ?_;refine zs ?_;refine zF ?_;refine j85 ?_;refine j117 ?_;refine AOps.fieldAddrN 33 1 2 rfl rfl rfl rfl ?_;refine j38 ?_;refine zn ?_;refine j74 ?_;refine j166 ?_;refine j2 ?_;refine AOps.fieldAddrN 33 0 0 rfl rfl rfl rfl ?_;(with_reducible apply AOps.load_bs);(iterate 3 exact rfl);(repeat' first|exact Sub.nil|apply Sub.take|apply Sub.skip);(iterate 3 exact rfl);refine AOps.call (ha) (.cons rfl (.aggL (.cons (.pv _) (.cons (.pv _) .nil))) .nil) rfl rfl (fun h_=>by cases h_) ?_;refine j37 ?_;refine j47 ?_;refine j97 ?_)
  refine AW.loop (fun(k:Nat)=>{n:=119,env:=[(2,.ptr 0 0),(3,.ptr 1 0),(5,litI n),(44,.pv (.slice 3 (fs.map encF))),(45,litI fs.length),(46,litI k)],objs:=[(0,some (.box [.pv (.slice 2 (so.map encSo)),.pv (.slice 3 (fs.map encF)),slv p,slv q])),(1,some (.box [.pv (ints at'),litI st,.pv (stts ss),litI lp]))],nx:=2}) (fun k=>k≤fs.length∧fieldsB so.length fs=fieldsB so.length (fs.drop k)∧∀i (h:i<k) (h':i<fs.length),colsB so.length fs[i].sorts=true) (fun k=>fs.length - k) 0 ?_ ?_ ?_
  ·exact⟨Nat.zero_le _,rfl,fun i h=>absurd h (Nat.not_lt_zero _)⟩
  ·exact j94
  rintro k ⟨hk,he,hok⟩
  by_cases hlt:k<fs.length
  ·rw[fieldsB_drop hlt] at he
   have hc:=columns_fn ⟨so,fs,p,q⟩ fs[k]
   simp only at hc
   cases h2:colsB so.length fs[k].sorts with
   |true=>
    rw[h2] at hc
    rw[h2,Bool.true_and] at he
    (refine j7 ?_;(focus ((with_reducible apply AOps.index_map);(iterate 7 exact rfl);rotate_left;omega));refine j56 ?_;refine zq ?_;refine j137 ?_;refine AOps.call (hc) (.cons rfl (.aggL (.cons (.pv _) (.cons (.pv _) (.cons (.pv _) (.cons (.pv _) .nil))))) (.cons rfl (.aggL (.cons (.pv _) (.cons (.pv _) (.cons (.pv _) .nil)))) .nil)) rfl rfl (fun h_=>by cases h_) ?_;refine j216 ?_)
    exact⟨k+1,⟨by omega,he,fun i hi h'=>by rcases Nat.lt_or_eq_of_le (Nat.le_of_lt_succ hi) with h|rfl;exact hok i h h';exact h2⟩,by omega,weak rfl (by(first|(refine⟨.eq rfl rfl,?_⟩;(iterate 9 refine⟨.eq rfl rfl,?_⟩);exact trivial)|(refine⟨.eq rfl rfl,?_⟩;(iterate 5 refine⟨.eq rfl rfl,?_⟩);exact trivial))) (by(refine j16 ?_;exact j30)) rfl⟩
   |false=>
    rw[h2] at hc
    rw[h2,Bool.false_and] at he
    rw[he,Bool.false_and]
    (refine j7 ?_;(focus ((with_reducible apply AOps.index_map);(iterate 7 exact rfl);rotate_left;omega));refine j56 ?_;refine zq ?_;refine j137 ?_;refine AOps.call (hc) (.cons rfl (.aggL (.cons (.pv _) (.cons (.pv _) (.cons (.pv _) (.cons (.pv _) .nil))))) (.cons rfl (.aggL (.cons (.pv _) (.cons (.pv _) (.cons (.pv _) .nil)))) .nil)) rfl rfl (fun h_=>by cases h_) ?_;refine j300 ?_;refine j10 ?_)
    (apply ends_ret;(exact Res.one (.tmp rfl rfl));(refine Le.litB ?_;(rfl)))
  ·obtain rfl:k=fs.length:=by omega
   rw[List.drop_length] at he
   have he:fieldsB so.length fs=true:=he
   rw[he,Bool.true_and]
   clear he
   have hc:∀i (h':i<fs.length),colsB so.length fs[i].sorts=true:=fun i h'=>hok i h' h'
   (refine j46 ?_;refine j130 ?_;refine j22 ?_;refine j97 ?_)
   have h00:0<ss.length:=by omega
   have e0:ss.headD []=ss[Int.toNat 0]'(by show 0<_;omega):=by cases ss with|nil=>simp at h00|cons a l=>rfl
   rw[e0]
   refine AW.loop (fun(j:Nat)=>{n:=119,env:=[(2,.ptr 0 0),(3,.ptr 1 0),(5,litI n),(56,.pv (stts ss)),(57,litI ss.length),(58,litI j)],objs:=[(0,some (.box [.pv (.slice 2 (so.map encSo)),.pv (.slice 3 (fs.map encF)),slv p,slv q])),(1,some (.box [.pv (ints at'),litI st,.pv (stts ss),litI lp]))],nx:=2}) (fun j=>j≤ss.length∧statesB n full fs (ss[Int.toNat 0]'(by show 0<_;omega)) ss=statesB n full fs (ss[Int.toNat 0]'(by show 0<_;omega)) (ss.drop j)∧(0<j→(ss[Int.toNat 0]'(by show 0<_;omega)).length=fs.length)) (fun j=>ss.length - j) 0 ?_ ?_ ?_
   ·exact⟨Nat.zero_le _,rfl,fun h=>absurd h (by omega)⟩
   ·exact j94
   rintro j ⟨hj,he,hlen0⟩
   by_cases hlt2:j<ss.length
   ·rw[statesB_drop hlt2] at he
    by_cases hsl:ss[j].length=fs.length
    ·have hlen0:(ss[Int.toNat 0]'(by show 0<_;omega)).length=fs.length:=by
      by_cases hj0:0<j
      ·exact hlen0 hj0
      ·obtain rfl:j=0:=by omega
       exact hsl
     have es:stateB n full fs (ss[Int.toNat 0]'(by show 0<_;omega)) ss[j]=cellsB n full fs ss[j] (ss[Int.toNat 0]'(by show 0<_;omega)):=by unfold stateB;rw[decide_eq_true hsl,Bool.true_and]
     rw[es] at he
     (refine j7 ?_;(focus ((with_reducible apply AOps.index_map);(iterate 7 exact rfl);rotate_left;omega));refine zr ?_;refine j37 ?_;refine zm ?_;refine zn ?_;refine j47 ?_;refine j70 ?_;refine j166 ?_;refine j2 ?_;refine j47 ?_;refine j97 ?_)
     refine AW.loop (fun(i:Nat)=>{n:=119,env:=[(2,.ptr 0 0),(3,.ptr 1 0),(5,litI n),(9,.pv (rels ss[j])),(56,.pv (stts ss)),(57,litI ss.length),(58,litI j),(69,.pv (.slice 3 (fs.map encF))),(70,litI fs.length),(71,litI i)],objs:=[(0,some (.box [.pv (.slice 2 (so.map encSo)),.pv (.slice 3 (fs.map encF)),slv p,slv q])),(1,some (.box [.pv (ints at'),litI st,.pv (stts ss),litI lp]))],nx:=2}) (fun i=>i≤fs.length∧cellsB n full fs ss[j] (ss[Int.toNat 0]'(by show 0<_;omega))=cellsB n full (fs.drop i) (ss[j].drop i) ((ss[Int.toNat 0]'(by show 0<_;omega)).drop i)) (fun i=>fs.length - i) 0 ?_ ?_ ?_
     ·exact⟨Nat.zero_le _,rfl⟩
     ·exact j94
     rintro i ⟨hi,hce⟩
     by_cases hlt3:i<fs.length
     ·rw[cellsB_drop hlt3 (by omega) (by omega)] at hce
      have hcf:=hfull _ (List.getElem_mem hlt3) (hc i hlt3)
      have hlt4:i<ss[j].length:=by omega
      have hlt5:i<(ss[Int.toNat 0]'(by show 0<_;omega)).length:=by omega
      have hlt6:i<(ss[0]'(by omega)).length:=hlt5
      have hrv:=relValid_fn n ss[j][i]
      unfold cellB at hce
      by_cases h2:(ss[j][i]).1=fs[i].sorts.length
      ·rw[decide_eq_true h2,Bool.true_and] at hce
       cases h3:relOk n ss[j][i] with
       |false=>
        rw[h3] at hrv hce
        rw[Bool.false_and,Bool.false_and] at hce
        rw[hce,Bool.false_and] at he
        (refine j303 ?_;(focus ((with_reducible apply AOps.index_map);(iterate 7 exact rfl);rotate_left;omega));refine j242 ?_;(focus ((with_reducible apply AOps.index_map);(iterate 7 exact rfl);rotate_left;omega));refine j56 ?_;(iterate 2 refine zo ?_);refine j91 ?_;refine j169 ?_;refine zy ?_;refine AOps.call (hrv) (.cons rfl (.pv _) (.cons rfl (.aggL (.cons (.pv _) (.cons (.pv _) .nil))) .nil)) rfl rfl (fun h_=>by cases h_) ?_;refine j123 ?_;refine zm ?_;(iterate 8 refine AOps.guard_lf rfl rfl rfl rfl rfl rfl rfl ?_);refine j55 ?_;refine j35 ?_)
        (apply ends_ret;(exact Res.one (.tmp rfl rfl));(refine Le.litB ?_;(exact he.symm)))
       |true=>
        rw[h3] at hrv hce
        rw[Bool.true_and] at hce
        have hin:=in_fn (ss[j][i]).1 (ss[j][i]).2 (full fs[i].sorts).1 (full fs[i].sorts).2 (by have:=relOk_len h3;omega) hcf.1
        have hcf:=hcf.2
        cases h4:subL ss[j][i].2 (full fs[i].sorts).2 with
        |false=>
         rw[h4] at hin hce
         rw[Bool.false_and,Bool.false_and] at hce
         rw[hce,Bool.false_and] at he
         (refine j303 ?_;(focus ((with_reducible apply AOps.index_map);(iterate 7 exact rfl);rotate_left;omega));refine j242 ?_;(focus ((with_reducible apply AOps.index_map);(iterate 7 exact rfl);rotate_left;omega));refine j56 ?_;(iterate 2 refine zo ?_))
         refine AW.regionE [0,1,2,3,4,5,6,7,8] [19] rfl (by assumption) (by kernel_rfl) rfl ?_
         show AOps .held _ _ _ [_,_,_,_,_,_,_,_,_] _ _
         (refine j169 ?_;refine j6 ?_)
         intro k_ hk_
         (try refine nz ?_)
         refine AR.step1 (i:=9) rfl (by kernel_rfl) rfl ?_
         intro g_ hgro_ hw_
         (refine zy ?_;refine AOps.call (hrv) (.cons rfl (.pv _) (.cons rfl (.aggL (.cons (.pv _) (.cons (.pv _) .nil))) .nil)) rfl rfl (fun h_=>by cases h_) ?_;refine j6 ?_)
         refine AR.step1 (i:=10) rfl (by kernel_rfl) rfl ?_
         intro g_ hgro_ hw_
         (refine zy ?_;refine AOps.not rfl rfl rfl ?_;refine j6 ?_)
         refine AR.step1 (i:=11) rfl (by kernel_rfl) rfl ?_
         intro g_ hgro_ hw_
         (refine zF ?_;refine j6 ?_)
         refine AR.step1 (i:=12) rfl (by kernel_rfl) rfl ?_
         intro g_ hgro_ hw_
         (refine zm ?_;refine j6 ?_)
         refine AR.reads [13,14,16,15,17] (by kernel_rfl) (by kernel_rfl) (by kernel_rfl) ?_
         intro g_ hgro_
         show AOps .held _ _ _ [_,_,_,_,_] _ _
         (refine j116 ?_;refine j193 ?_;refine AOps.fieldAddrN 52 1 1 rfl rfl rfl rfl ?_;refine zl ?_;(with_reducible apply AOps.load_bs);(iterate 3 exact rfl);(repeat' first|exact Sub.nil|apply Sub.take|apply Sub.skip);(iterate 3 exact rfl);refine zl ?_;refine zb ?_;refine j6 ?_)
         intro k_ hk_
         (try refine nz ?_)
         refine AR.step1 (i:=18) rfl (by kernel_rfl) rfl ?_
         intro g_ hgro_ hw_
         (refine zl ?_;refine AOps.callp (hcf) (.cons rfl (.aggL (.cons (.pv _) (.cons (.pv _) .nil))) (.cons rfl (.pv _) .nil)) rfl ?_;refine j6 ?_)
         refine AR.step1L (i:=19) rfl (by kernel_rfl) rfl (by kernel_rfl) ?_
         intro g_ hgro_ hwt2_
         (refine zl ?_;refine AOps.call (hin) (.cons rfl (.aggL (.cons (.pv _) (.cons (.pv _) .nil))) (.cons rfl (.aggL (.cons (.pv _) (.cons (.pv _) .nil))) .nil)) rfl rfl (fun h_=>by cases h_) ?_;refine j6 ?_)
         refine AR.step1L (i:=20) rfl (by kernel_rfl) rfl (by kernel_rfl) ?_
         intro g_ hgro_ hwt2_
         (refine j262 ?_;refine j6 ?_)
         refine AR.step1L (i:=21) rfl (by kernel_rfl) rfl (by kernel_rfl) ?_
         intro g_ hgro_ hwt2_
         (refine AOps.pick_lf rfl rfl rfl rfl rfl rfl ?_;refine j6 ?_)
         refine AR.done (by assumption) (by kernel_rfl) ?_
         (refine thenD_n ?_;refine AW.cond_lt rfl rfl ?_;refine j2 ?_;refine j247 ?_;refine j35 ?_)
         (apply ends_ret;(exact Res.one (.tmp rfl rfl));(refine Le.litB ?_;(exact he.symm)))
        |true=>
         rw[h4] at hin hce
         rw[Bool.true_and] at hce
         (refine j303 ?_;(focus ((with_reducible apply AOps.index_map);(iterate 7 exact rfl);rotate_left;omega));refine j242 ?_;(focus ((with_reducible apply AOps.index_map);(iterate 7 exact rfl);rotate_left;omega));refine j56 ?_;(iterate 2 refine zo ?_))
         refine AW.regionE [0,1,2,3,4,5,6,7,8] [19] rfl (by assumption) (by kernel_rfl) rfl ?_
         show AOps .held _ _ _ [_,_,_,_,_,_,_,_,_] _ _
         (refine j169 ?_;refine j6 ?_)
         intro k_ hk_
         (try refine nz ?_)
         refine AR.step1 (i:=9) rfl (by kernel_rfl) rfl ?_
         intro g_ hgro_ hw_
         (refine zy ?_;refine AOps.call (hrv) (.cons rfl (.pv _) (.cons rfl (.aggL (.cons (.pv _) (.cons (.pv _) .nil))) .nil)) rfl rfl (fun h_=>by cases h_) ?_;refine j6 ?_)
         refine AR.step1 (i:=10) rfl (by kernel_rfl) rfl ?_
         intro g_ hgro_ hw_
         (refine zy ?_;refine AOps.not rfl rfl rfl ?_;refine j6 ?_)
         refine AR.step1 (i:=11) rfl (by kernel_rfl) rfl ?_
         intro g_ hgro_ hw_
         (refine zF ?_;refine j6 ?_)
         refine AR.step1 (i:=12) rfl (by kernel_rfl) rfl ?_
         intro g_ hgro_ hw_
         (refine zm ?_;refine j6 ?_)
         refine AR.reads [13,14,16,15,17] (by kernel_rfl) (by kernel_rfl) (by kernel_rfl) ?_
         intro g_ hgro_
         show AOps .held _ _ _ [_,_,_,_,_] _ _
         (refine j116 ?_;refine j193 ?_;refine AOps.fieldAddrN 52 1 1 rfl rfl rfl rfl ?_;refine zl ?_;(with_reducible apply AOps.load_bs);(iterate 3 exact rfl);(repeat' first|exact Sub.nil|apply Sub.take|apply Sub.skip);(iterate 3 exact rfl);refine zl ?_;refine zb ?_;refine j6 ?_)
         intro k_ hk_
         (try refine nz ?_)
         refine AR.step1 (i:=18) rfl (by kernel_rfl) rfl ?_
         intro g_ hgro_ hw_
         (refine zl ?_;refine AOps.callp (hcf) (.cons rfl (.aggL (.cons (.pv _) (.cons (.pv _) .nil))) (.cons rfl (.pv _) .nil)) rfl ?_;refine j6 ?_)
         refine AR.step1L (i:=19) rfl (by kernel_rfl) rfl (by kernel_rfl) ?_
         intro g_ hgro_ hwt2_
         (refine zl ?_;refine AOps.call (hin) (.cons rfl (.aggL (.cons (.pv _) (.cons (.pv _) .nil))) (.cons rfl (.aggL (.cons (.pv _) (.cons (.pv _) .nil))) .nil)) rfl rfl (fun h_=>by cases h_) ?_;refine j6 ?_)
         refine AR.step1L (i:=20) rfl (by kernel_rfl) rfl (by kernel_rfl) ?_
         intro g_ hgro_ hwt2_
         (refine j262 ?_;refine j6 ?_)
         refine AR.step1L (i:=21) rfl (by kernel_rfl) rfl (by kernel_rfl) ?_
         intro g_ hgro_ hwt2_
         (refine AOps.pick_lf rfl rfl rfl rfl rfl rfl ?_;refine j6 ?_)
         refine AR.done (by assumption) (by kernel_rfl) ?_
         (refine thenD_n ?_;refine j133 ?_;refine zo ?_)
         have heq:=relEqual_fn ss[j][i] ((ss[Int.toNat 0]'(by show 0<_;omega))[i])
         cases hv:fs[i].var with
         |true=>
          rw[hv,Bool.true_or,Bool.true_and] at hce
          have hv':(!fs[i].var)=false:=by rw[hv];rfl
          (refine j338 ?_;(iterate 10 refine AOps.guard_lf rfl rfl rfl rfl rfl (by assumption) rfl ?_);refine AOps.pickBf rfl rfl (by assumption) rfl rfl rfl rfl ?_;refine zd ?_;refine AW.cond_lf rfl rfl ?_;refine AW.skip ?_;refine j88 ?_)
          exact j159
         |false=>
          rw[hv,Bool.false_or] at hce
          have hv':(!fs[i].var)=true:=by rw[hv];rfl
          by_cases h6:ss[j][i]=((ss[Int.toNat 0]'(by show 0<_;omega))[i])
          ·rw[decide_eq_true h6] at heq hce
           rw[Bool.true_and] at hce
           (refine j338 ?_;refine j221 ?_;(focus ((with_reducible apply AOps.index_map);(iterate 7 exact rfl);rotate_left;omega));refine j366 ?_;(focus ((with_reducible apply AOps.index_map);(iterate 7 exact rfl);rotate_left;omega));refine j34 ?_;refine j167 ?_;refine j34 ?_;refine AOps.call (heq) (.cons rfl (.aggL (.cons (.pv _) (.cons (.pv _) .nil))) (.cons rfl (.aggL (.cons (.pv _) (.cons (.pv _) .nil))) .nil)) rfl rfl (fun h_=>by cases h_) ?_;refine j34 ?_;refine AOps.not rfl rfl rfl ?_;refine AOps.pickBt rfl rfl (by assumption) rfl rfl rfl rfl ?_;refine zd ?_;refine AW.cond_lf rfl rfl ?_;refine AW.skip ?_;refine j88 ?_)
           exact j159
          ·rw[decide_eq_false h6] at heq hce
           rw[Bool.false_and] at hce
           rw[hce,Bool.false_and] at he
           (refine j338 ?_;refine j221 ?_;(focus ((with_reducible apply AOps.index_map);(iterate 7 exact rfl);rotate_left;omega));refine j366 ?_;(focus ((with_reducible apply AOps.index_map);(iterate 7 exact rfl);rotate_left;omega));refine j34 ?_;refine j167 ?_;refine j34 ?_;refine AOps.call (heq) (.cons rfl (.aggL (.cons (.pv _) (.cons (.pv _) .nil))) (.cons rfl (.aggL (.cons (.pv _) (.cons (.pv _) .nil))) .nil)) rfl rfl (fun h_=>by cases h_) ?_;refine j34 ?_;refine AOps.not rfl rfl rfl ?_;refine AOps.pickBt rfl rfl (by assumption) rfl rfl rfl rfl ?_;refine j25 ?_;refine j35 ?_)
           (apply ends_ret;(exact Res.one (.tmp rfl rfl));(refine Le.litB ?_;(exact he.symm)))
      ·rw[decide_eq_false h2,Bool.false_and,Bool.false_and] at hce
       rw[hce,Bool.false_and] at he
       (refine j303 ?_;(focus ((with_reducible apply AOps.index_map);(iterate 7 exact rfl);rotate_left;omega));refine j242 ?_;(focus ((with_reducible apply AOps.index_map);(iterate 7 exact rfl);rotate_left;omega));refine j56 ?_;(iterate 2 refine zo ?_);refine j91 ?_;refine j89 ?_;refine j57 ?_;refine j70 ?_;refine zm ?_;refine j176 ?_;refine j315 ?_;(iterate 8 refine AOps.guard_lf rfl rfl rfl rfl rfl rfl rfl ?_);refine j55 ?_;refine j35 ?_)
       (apply ends_ret;(exact Res.one (.tmp rfl rfl));(refine Le.litB ?_;(exact he.symm)))
     ·obtain rfl:i=fs.length:=by omega
      rw[List.drop_length] at hce
      have hce:cellsB n full fs ss[j] (ss[Int.toNat 0]'(by show 0<_;omega))=true:=hce
      rw[hce,Bool.true_and] at he
      (refine j305 ?_;refine j88 ?_)
      exact⟨j+1,⟨by omega,he,fun _=>hlen0⟩,by omega,weak rfl (by(first|(refine⟨.eq rfl rfl,?_⟩;(iterate 9 refine⟨.eq rfl rfl,?_⟩);exact trivial)|(refine⟨.eq rfl rfl,?_⟩;(iterate 5 refine⟨.eq rfl rfl,?_⟩);exact trivial))) (by(refine j16 ?_;exact j30)) rfl⟩
    ·have es:stateB n full fs (ss[Int.toNat 0]'(by show 0<_;omega)) ss[j]=false:=by unfold stateB;rw[decide_eq_false hsl,Bool.false_and]
     rw[es,Bool.false_and] at he
     (refine j7 ?_;(focus ((with_reducible apply AOps.index_map);(iterate 7 exact rfl);rotate_left;omega));refine zr ?_;refine j37 ?_;refine zm ?_;refine zn ?_;refine j47 ?_;refine j70 ?_;refine j268 ?_;refine j10 ?_)
     all_goals (apply ends_ret;(exact Res.one (.tmp rfl rfl));(refine Le.litB ?_;(exact he.symm)))
   ·obtain rfl:j=ss.length:=by omega
    rw[List.drop_length] at he
    have he:statesB n full fs (ss[Int.toNat 0]'(by show 0<_;omega)) ss=true:=he
    rw[he]
    (refine j215 ?_;refine j11 ?_)
    (apply ends_ret;(exact Res.one (.tmp rfl rfl));(refine Le.litB ?_;(rfl)))
 ·have e1:shapeB ⟨at',st,ss,lp⟩=false:=decide_eq_false h1
  rw[e1,Bool.false_and]
  refine Fn.enter (n:=119) Tryz.func15 rfl rfl rfl rfl rfl (by decide) fun g hro_ hwt_=>?_;(try refine nz ?_)
  (refine j131 ?_;refine j100 ?_;(with_reducible apply AOps.load_bs);(iterate 3 exact rfl);(repeat' first|exact Sub.nil|apply Sub.take|apply Sub.skip);(iterate 3 exact rfl);refine AOps.call (hu) (.cons rfl (.aggL (.cons (.pv _) (.cons (.pv _) (.cons (.pv _) (.cons (.pv _) .nil))))) (.cons rfl (.aggL (.cons (.pv _) (.cons (.pv _) .nil))) .nil)) rfl rfl (fun h_=>by cases h_) ?_;refine j107 ?_;refine zm ?_;(focus ((with_reducible apply AOps.guardF);(iterate 6 exact rfl);all_goals intro hc_));refine j117 ?_;refine zs ?_;refine zF ?_;refine zm ?_;(focus ((with_reducible apply AOps.guardF);(iterate 6 exact rfl);all_goals intro hc_));refine j117 ?_;refine AOps.fieldAddrN 33 1 2 rfl rfl rfl rfl ?_;refine j38 ?_;refine zn ?_;refine j74 ?_;refine j268 ?_;(all_goals skip);rotate_left;refine j217 ?_;refine j148 ?_;(all_goals skip);rotate_left;refine j109 ?_;refine j315 ?_;refine j298 ?_;(all_goals skip);rotate_left)
  all_goals (apply ends_ret;(exact Res.one (.tmp rfl rfl));(refine Le.litB ?_;(rfl)))
end Go.Ab
/- Chapter 07's reference:sorts of atoms,columns,well-formed models. -/
namespace Go.Ab
open Go Go.Proofs
open Nat (reduceAdd reduceSub)
set_option maxRecDepth 20000
set_option maxHeartbeats 8000000
def sortF:List Int→Int→Int→Int
 |[],_,_=> -1
 |a::l,x,i=>if x<a then i else sortF l (x - a) (i+1)
theorem sortF_drop {l:List Int} {x i:Int} {j:Nat} (hj:j<l.length):sortF (l.drop j) x i=if x<l[j] then i else sortF (l.drop (j+1)) (x - l[j]) (i+1):=by
 rw[List.drop_eq_getElem_cons hj];rfl
attribute [local irreducible] AW AOps thenD inBlockD AR iterEnds roundEndsN inlEnds noGotoD
theorem rSort_fn (at':List Int) (st x:Int) (h:SmA at') (hx: -9223372036854775808≤x∧x≤9223372036854775807):Fn Tryz.prog 71 [scp at' st,litI x] (litI (sortF at' x 0)):=by
 have hle:=h.1
 refine Fn.enter (n:=28) Tryz.func71 rfl rfl rfl rfl rfl (by decide) fun g hro_ hwt_=>?_;(try refine nz ?_)
 (refine j157 ?_;refine j92 ?_)
 (refine nz ?_;apply AW.loopR [2] [0] (fun s:Nat×Int=>([(5,litI s.1),(1,litI s.2)]:List (Nat×AV))) (fun s:Nat×Int=>([]:List (Nat×Option Ob))) (fun s:Nat×Int=>s.1≤at'.length∧ -9223372036854775808≤s.2∧s.2≤9223372036854775807∧sortF at' x 0=sortF (at'.drop s.1) s.2 s.1) (fun s:Nat×Int=>at'.length - s.1) ((0,x));(conv=>lhs;simp only[Nf.lpR,Nf.all,Nat.reduceBEq,reduceAdd,reduceSub]);(all_goals skip))
 ·exact⟨Nat.zero_le _,hx.1,hx.2,rfl⟩
 ·exact j162
 rintro⟨j,y⟩ ⟨hj,h1,h2,he⟩
 simp only at hj h1 h2 he ⊢
 by_cases hlt:j<at'.length
 ·have hz:=h.2 _ (List.getElem_mem hlt)
  rw[sortF_drop hlt] at he
  by_cases hc:y<at'[j]
  ·rw[if_pos hc] at he
   (refine j312 ?_;refine j130 ?_;refine zm ?_;refine j28 ?_;refine zm ?_;(focus ((with_reducible apply AOps.index_map);(iterate 7 exact rfl);rotate_left;omega));refine zr ?_;refine j139 ?_;refine zc ?_;refine j2 ?_;refine zm ?_;refine j247 ?_;refine j10 ?_)
   (apply ends_ret;(exact Res.one (.tmp rfl rfl));(refine Le.litI ?_;(exact he.symm)))
  ·rw[if_neg hc] at he
   (refine j312 ?_;refine j130 ?_;refine zm ?_;refine j28 ?_;refine zm ?_;(focus ((with_reducible apply AOps.index_map);(iterate 7 exact rfl);rotate_left;omega));refine zr ?_;refine j139 ?_;refine j105 ?_;refine j372 ?_;refine j28 ?_;refine zm ?_;(focus ((with_reducible apply AOps.index_map);(iterate 7 exact rfl);rotate_left;omega));refine zr ?_;refine AOps.sub rfl rfl rfl rfl rfl (by omega) ?_;refine j158 ?_)
   exact⟨(j+1,y - at'[j]),⟨by show j+1≤_;omega,by show _≤y - _;omega,by show y - _≤_;omega,he⟩,by show at'.length - (j+1)<at'.length - j;omega,weak rfl (by(refine⟨.eq rfl rfl,?_⟩;(iterate 2 refine⟨.eq rfl rfl,?_⟩);exact trivial)) (by(refine⟨.box _ rfl ?_,?_⟩;(iterate 2 refine⟨.eq rfl rfl,?_⟩);(iterate 2 exact trivial))) rfl⟩
 ·rw[List.drop_eq_nil_of_le (by omega)] at he
  (refine j26 ?_;refine j28 ?_;refine j337 ?_)
  (apply ends_ret;(exact Res.one (.tmp rfl rfl));(refine Le.litI ?_;(exact he.symm)))
def colsF (at':List Int) (n:Int):List Int→Int→Bool
 |[],_=>true
 |s::ss,r=>decide (sortF at' (r % n) 0=s) && colsF at' n ss (r / n)
theorem colsF_take {at':List Int} {n:Int} {l:List Int} {j:Nat} {r:Int} (hj:j<l.length):colsF at' n (l.take (j+1)).reverse r=(decide (sortF at' (r % n) 0=l[j]) && colsF at' n (l.take j).reverse (r / n)):=by
 rw[take_succ_get hj,List.reverse_append];rfl
def withinB (at':List Int) (n:Int) (l:List Int) (ts:List Int):Bool:=ts.all fun t=>colsF at' n l.reverse t
theorem withinB_drop {at':List Int} {n:Int} {l ts:List Int} {k:Nat} (hk:k<ts.length):withinB at' n l (ts.drop k)=(colsF at' n l.reverse ts[k] && withinB at' n l (ts.drop (k+1))):=by
 rw[List.drop_eq_getElem_cons hk];rfl
theorem rWithin_fn (at':List Int) (st:Int) (l:List Int) (c:Int) (ts:List Int) (h:SmA at') (hl:l.length≤1000) (hts:ts.length≤1000000) (ht:∀t∈ts,0≤t∧t≤9223372036854775807):
  Fn Tryz.prog 36 [scp at' st,.pv (ints l),relA (c,ts)] (litB (withinB at' (max 1 at'.sum) l ts)):=by
 have ha:=rAtoms_fn at' st h
 have hb:=h.take at'.length
 rw[List.take_length] at hb
 have hn:1≤max 1 at'.sum:=by omega
 have hsr:=fun x hx=>rSort_fn at' st x h hx
 generalize hnn:max 1 at'.sum=n at hn
 refine Fn.enter (n:=46) Tryz.func36 rfl rfl rfl rfl rfl (by decide) fun g hro_ hwt_=>?_;(try refine nz ?_)
 (refine j187 ?_;refine j27 ?_;refine zA (ha) ?_;refine AOps.max2 rfl rfl rfl rfl rfl ?_;refine j311 ?_)
 rw[hnn]
 (refine nz ?_;apply AW.loopR [7,5,3,1] [1,0] (fun i:Nat=>([(8,litI i)]:List (Nat×AV))) (fun i:Nat=>([]:List (Nat×Option Ob))) (fun i:Nat=>i≤ts.length∧withinB at' n l ts=withinB at' n l (ts.drop i)) (fun i:Nat=>ts.length - i) (0);(conv=>lhs;simp only[Nf.lpR,Nf.all,Nat.reduceBEq,reduceAdd,reduceSub]);(all_goals skip))
 ·exact⟨Nat.zero_le _,rfl⟩
 ·exact j173
 rintro i ⟨hi,he⟩
 by_cases hlt:i<ts.length
 ·have htb:=ht _ (List.getElem_mem hlt)
  rw[withinB_drop hlt] at he
  (refine j26 ?_;refine j83 ?_;refine j39 ?_;refine j2 ?_;refine j83 ?_;refine zm ?_;(focus ((with_reducible apply AOps.index_map);(iterate 7 exact rfl);rotate_left;omega));refine j356 ?_;refine zn ?_;refine j288 ?_)
  (refine nz ?_;apply AW.loopR [8,7,5,3,1] [1,0] (fun s:Nat×Int=>([(9,litI s.2),(10,litI ((s.1:Int) - 1))]:List (Nat×AV))) (fun s:Nat×Int=>([]:List (Nat×Option Ob))) (fun s:Nat×Int=>s.1≤l.length∧0≤s.2∧s.2≤9223372036854775807∧colsF at' n l.reverse ts[i]=colsF at' n (l.take s.1).reverse s.2) (fun s:Nat×Int=>s.1) ((l.length,ts[i]));(conv=>lhs;simp only[Nf.lpR,Nf.all,Nat.reduceBEq,reduceAdd,reduceSub]);(all_goals skip))
  ·exact⟨Nat.le_refl _,htb.1,htb.2,by rw[List.take_length]⟩
  ·exact j173
  rintro⟨k,r⟩ ⟨hk,hr1,hr2,hc⟩
  simp only at hk hr1 hr2 hc ⊢
  cases k with
  |zero=>
   have hc:colsF at' n l.reverse ts[i]=true:=hc
   rw[hc,Bool.true_and] at he
   (refine j212 ?_;refine zd ?_;refine AW.cond_lf rfl rfl ?_;refine AW.exit ?_;(iterate 2 refine thenD_exit ?_);refine inBlockD_exit ?_;refine j48 ?_)
   exact⟨i+1,⟨by omega,he⟩,by omega,weak rfl (by(first|(refine⟨.eq rfl rfl,?_⟩;(iterate 6 refine⟨.eq rfl rfl,?_⟩);exact trivial)|(refine⟨.eq rfl rfl,?_⟩;(iterate 4 refine⟨.eq rfl rfl,?_⟩);exact trivial))) (by(refine⟨.box _ rfl ?_,?_⟩;(iterate 2 refine⟨.eq rfl rfl,?_⟩);exact trivial;refine⟨.box _ rfl ?_,?_⟩;(iterate 2 refine⟨.eq rfl rfl,?_⟩);(iterate 2 exact trivial))) rfl⟩
  |succ k=>
   have ek:((k+1:Nat):Int) - 1=(k:Int):=by omega
   rw[ek]
   rw[colsF_take (by omega)] at hc
   have hm1:=Int.emod_nonneg r (by omega:n≠0)
   have hm2:=Int.emod_lt_of_pos r (by omega:0<n)
   have hd1:=Int.ediv_nonneg hr1 (by omega:0≤n)
   have hd2:=Int.ediv_le_self n hr1
   have hs:=hsr (r % n) (by omega)
   by_cases hq:sortF at' (r % n) 0=l[k]
   ·rw[decide_eq_true hq,Bool.true_and] at hc
    (refine j317 ?_;(iterate 2 refine zo ?_);(with_reducible apply AW.regionQ);exact rfl;exact rfl;kernel_rfl;(with_reducible assumption);refine j27 ?_;refine j301 ?_;refine zA (hs) ?_;(iterate 2 refine zm ?_);(focus ((with_reducible apply AOps.index_map);(iterate 7 exact rfl);rotate_left;omega));refine j345 ?_;refine j166 ?_;refine j364 ?_)
    exact⟨(k,r / n),⟨by show k≤_;omega,hd1,by show r / n≤_;omega,hc⟩,by show k<k+1;omega,weak rfl (by(first|(refine⟨.eq rfl rfl,?_⟩;(iterate 6 refine⟨.eq rfl rfl,?_⟩);exact trivial)|(refine⟨.eq rfl rfl,?_⟩;(iterate 4 refine⟨.eq rfl rfl,?_⟩);exact trivial))) (by(refine⟨.box _ rfl ?_,?_⟩;(iterate 2 refine⟨.eq rfl rfl,?_⟩);exact trivial;refine⟨.box _ rfl ?_,?_⟩;(iterate 2 refine⟨.eq rfl rfl,?_⟩);(iterate 2 exact trivial))) rfl⟩
   ·rw[decide_eq_false hq,Bool.false_and] at hc
    rw[hc,Bool.false_and] at he
    (refine j317 ?_;(iterate 2 refine zo ?_);(with_reducible apply AW.regionQ);exact rfl;exact rfl;kernel_rfl;(with_reducible assumption);refine j27 ?_;refine j301 ?_;refine zA (hs) ?_;(iterate 2 refine zm ?_);(focus ((with_reducible apply AOps.index_map);(iterate 7 exact rfl);rotate_left;omega));refine j345 ?_;refine j268 ?_;refine j35 ?_)
    (apply ends_ret;(exact Res.one (.tmp rfl rfl));(refine Le.litB ?_;(exact he.symm)))
 ·rw[List.drop_eq_nil_of_le (by omega)] at he
  (refine j26 ?_;refine j83 ?_;refine j337 ?_)
  (apply ends_ret;(exact Res.one (.tmp rfl rfl));(refine Le.litB ?_;(exact he.symm)))
theorem rField_fn (s:SpecM) (f:FieldM) (hl:f.sorts.length≤1000):Fn Tryz.prog 34 [spc s,fld f] (litB (colsB s.sorts.length f.sorts)):=by
 obtain⟨so,fs,p,q⟩:=s
 obtain⟨nm,l,v⟩:=f
 unfold colsB
 simp only at hl ⊢
 refine Fn.enter (n:=40) Tryz.func34 rfl rfl rfl rfl rfl (by decide) fun g hro_ hwt_=>?_;(try refine nz ?_)
 (refine j131 ?_;refine j92 ?_)
 (refine nz ?_;apply AW.loopR [3,2] [1,0] (fun i:Nat=>([(5,litI i)]:List (Nat×AV))) (fun i:Nat=>([]:List (Nat×Option Ob))) (fun i:Nat=>i≤l.length∧insB so.length l=insB so.length (l.drop i)) (fun i:Nat=>l.length - i) (0);(conv=>lhs;simp only[Nf.lpR,Nf.all,Nat.reduceBEq,reduceAdd,reduceSub]);(all_goals skip))
 ·exact⟨Nat.zero_le _,rfl⟩
 ·exact weak rfl (by(refine⟨.eq rfl rfl,?_⟩;(iterate 2 refine⟨.eq rfl rfl,?_⟩);exact trivial)) (by(refine⟨.box _ rfl ?_,?_⟩;(iterate 3 refine⟨.eq rfl rfl,?_⟩);exact trivial;refine⟨.box _ rfl ?_,?_⟩;(iterate 4 refine⟨.eq rfl rfl,?_⟩);(iterate 2 exact trivial))) rfl
 rintro i ⟨hi,he⟩
 by_cases hlt:i<l.length
 ·rw[insB_drop hlt] at he
  by_cases h2:0≤l[i]∧l[i]<so.length
  ·rw[decide_eq_true h2,Bool.true_and] at he
   (refine j26 ?_;refine j57 ?_;refine j39 ?_;refine zo ?_;(with_reducible apply AW.regionQ);exact rfl;exact rfl;kernel_rfl;(with_reducible assumption);refine j57 ?_;refine zm ?_;(focus ((with_reducible apply AOps.index_map);(iterate 7 exact rfl);rotate_left;omega));refine j334 ?_;refine AOps.fieldAddrN 52 1 1 rfl rfl rfl rfl ?_;refine j38 ?_;refine j85 ?_;(focus ((with_reducible apply AOps.index_map);(iterate 7 exact rfl);rotate_left;omega));refine j163 ?_;refine j93 ?_;refine j74 ?_;refine j316 ?_)
   exact⟨i+1,⟨by omega,he⟩,by omega,weak rfl (by(refine⟨.eq rfl rfl,?_⟩;(iterate 2 refine⟨.eq rfl rfl,?_⟩);exact trivial)) (by(refine⟨.box _ rfl ?_,?_⟩;(iterate 3 refine⟨.eq rfl rfl,?_⟩);exact trivial;refine⟨.box _ rfl ?_,?_⟩;(iterate 4 refine⟨.eq rfl rfl,?_⟩);(iterate 2 exact trivial))) rfl⟩
  ·rw[decide_eq_false h2,Bool.false_and] at he
   rw[he,Bool.and_false]
   (refine j26 ?_;refine j57 ?_;refine j39 ?_;refine zo ?_;(with_reducible apply AW.regionQ);exact rfl;exact rfl;kernel_rfl;(with_reducible assumption);refine j57 ?_;refine zm ?_;(focus ((with_reducible apply AOps.index_map);(iterate 7 exact rfl);rotate_left;omega));refine zr ?_;refine j353 ?_;(focus ((with_reducible apply AOps.guardF);(iterate 6 exact rfl);all_goals intro hc_));refine AOps.fieldAddrN 52 1 1 rfl rfl rfl rfl ?_;refine j38 ?_;refine j85 ?_;(focus ((with_reducible apply AOps.index_map);(iterate 7 exact rfl);rotate_left;omega));refine j163 ?_;refine j93 ?_;refine j74 ?_;refine j185 ?_;(all_goals skip);rotate_left;(iterate 8 refine AOps.guardFn rfl rfl rfl rfl rfl rfl (by with_reducible assumption) ?_);refine zT ?_;refine j25 ?_;refine j10 ?_;(all_goals skip);rotate_left)
   all_goals (apply ends_ret;(exact Res.one (.tmp rfl rfl));(refine Le.litB ?_;(rfl)))
 ·rw[List.drop_eq_nil_of_le (by omega)] at he
  have he:insB so.length l=true:=he
  rw[he,Bool.and_true]
  by_cases h3:1≤l.length∧l.length≤3
  ·rw[decide_eq_true h3]
   (refine j26 ?_;refine j57 ?_;refine j156 ?_;refine j57 ?_;refine zn ?_;refine AOps.geq rfl rfl rfl rfl rfl ?_;refine zm ?_;refine zt ?_;refine AOps.fieldAddrN 52 1 1 rfl rfl rfl rfl ?_;refine zt ?_;refine zb ?_;refine zt ?_;refine zn ?_;refine j295 ?_)
   all_goals (apply ends_ret;(exact Res.one (.tmp rfl rfl));(refine Le.litB ?_;(first|rfl|exact decide_eq_true (by omega))))
  ·rw[decide_eq_false h3]
   (refine j26 ?_;refine j57 ?_;refine j156 ?_;refine j57 ?_;refine zn ?_;refine AOps.geq rfl rfl rfl rfl rfl ?_;refine zm ?_;(focus ((with_reducible apply AOps.guardT);(iterate 6 exact rfl);all_goals intro hc_));refine AOps.fieldAddrN 52 1 1 rfl rfl rfl rfl ?_;refine zt ?_;refine zb ?_;refine zt ?_;refine zn ?_;refine j295 ?_;(all_goals skip);rotate_left;(iterate 3 refine AOps.guardTn rfl rfl rfl rfl rfl rfl (by with_reducible assumption) ?_);refine zF ?_;refine j11 ?_;(all_goals skip);rotate_left)
   all_goals (apply ends_ret;(exact Res.one (.tmp rfl rfl));(refine Le.litB ?_;(first|rfl|exact decide_eq_false (by omega))))
def rCell (n:Int) (at':List Int) (f:FieldM) (r r0:RelM):Bool:=decide (r.1=f.sorts.length) && (relOk n r && (withinB at' (max 1 n) f.sorts r.2 && (f.var||decide (r=r0))))
def rRow (n:Int) (at':List Int) (nf i:Nat) (f:FieldM) (s0 s:List RelM):Bool:=decide (s.length=nf) && rCell n at' f (s.getD i (0,[])) (s0.getD i (0,[]))
def rRows (n:Int) (at':List Int) (nf i:Nat) (f:FieldM) (s0:List RelM) (l:List (List RelM)):Bool:=l.all (rRow n at' nf i f s0)
theorem rRows_drop {n:Int} {at':List Int} {nf i:Nat} {f:FieldM} {s0:List RelM} {l:List (List RelM)} {j:Nat} (hj:j<l.length):rRows n at' nf i f s0 (l.drop j)=(rRow n at' nf i f s0 l[j] && rRows n at' nf i f s0 (l.drop (j+1))):=by
 rw[List.drop_eq_getElem_cons hj];rfl
def rFlds (n:Int) (at':List Int) (nf k:Nat) (ss:List (List RelM)):Nat→List FieldM→Bool
 |_,[]=>true
 |i,f::fs=>(colsB k f.sorts && rRows n at' nf i f (ss.headD []) ss) && rFlds n at' nf k ss (i+1) fs
theorem rFlds_drop {n:Int} {at':List Int} {nf k:Nat} {ss:List (List RelM)} {fs:List FieldM} {i:Nat} (hi:i<fs.length):rFlds n at' nf k ss i (fs.drop i)=((colsB k fs[i].sorts && rRows n at' nf i fs[i] (ss.headD []) ss) && rFlds n at' nf k ss (i+1) (fs.drop (i+1))):=by
 rw[List.drop_eq_getElem_cons hi];rfl
def lensB (nf:Nat) (ss:List (List RelM)):Bool:=ss.all fun s=>decide (s.length=nf)
theorem lensB_drop {nf:Nat} {ss:List (List RelM)} {j:Nat} (hj:j<ss.length):lensB nf (ss.drop j)=(decide (ss[j].length=nf) && lensB nf (ss.drop (j+1))):=by
 rw[List.drop_eq_getElem_cons hj];rfl
def rValidB (s:SpecM) (m:ModM):Bool:=
 scopeOk s.sorts.length m.atoms m.steps && (shapeB m && (rFlds m.atoms.sum m.atoms s.fields.length s.sorts.length m.states 0 s.fields && lensB s.fields.length m.states))
theorem relOk_mem {n:Int} {r:RelM} (h:relOk n r=true):∀t∈r.2,0≤t∧t≤9223372036854775807:=by
 have hlen:=h
 unfold relOk at h
 rw[Bool.and_eq_true,decide_eq_true_eq] at h
 obtain⟨⟨h1,h2,h3,h4⟩,h5⟩:=h
 have hb:n ^ r.1.toNat≤1728:=by
  obtain⟨k,rfl⟩:∃k:Nat,n=k:=⟨n.toNat,by omega⟩
  have hk:k≤12:=by omega
  have he:r.1.toNat≤3:=by omega
  generalize r.1.toNat=e at he
  have h6:k ^ e≤12 ^ 3:=Nat.le_trans (Nat.pow_le_pow_left hk e) (Nat.pow_le_pow_right (by omega) he)
  rw[← Int.natCast_pow]
  exact_mod_cast h6
 intro t ht
 obtain⟨j,hj,rfl⟩:=List.getElem_of_mem ht
 have:=(incrB_at (by omega)).1 h5 j hj
 omega
theorem rValid_fn (s:SpecM) (m:ModM) (hfs:s.fields.length≤1000) (hfl:∀f∈s.fields,f.sorts.length≤1000):Fn Tryz.prog 12 [spc s,mdl m] (litB (rValidB s m)):=by
 obtain⟨so,fs,p,q⟩:=s
 obtain⟨at',st,ss,lp⟩:=m
 simp only at hfs hfl ⊢
 unfold rValidB
 simp only
 have hu:=rScope_fn ⟨so,fs,p,q⟩ at' st
 simp only at hu
 cases hsc:scopeOk so.length at' st with
 |false=>
  rw[hsc] at hu
  rw[Bool.false_and]
  refine Fn.enter (n:=137) Tryz.func12 rfl rfl rfl rfl rfl (by decide) fun g hro_ hwt_=>?_;(try refine nz ?_)
  (refine j131 ?_;refine j100 ?_;(with_reducible apply AOps.load_bs);(iterate 3 exact rfl);(repeat' first|exact Sub.nil|apply Sub.take|apply Sub.skip);(iterate 3 exact rfl);refine zA (hu) ?_;refine j145 ?_;refine j150 ?_;refine j129 ?_;refine j113 ?_;refine j129 ?_;refine j298 ?_)
  (apply ends_ret;(exact Res.one (.tmp rfl rfl));(refine Le.litB ?_;(rfl)))
 |true=>
 rw[hsc] at hu
 rw[Bool.true_and]
 obtain⟨hs1,hs2,hs3,hs4,hs5,hs6,hsm⟩:=scopeOk_spec hsc
 clear hsc
 have hss:=hsm.take at'.length
 rw[List.take_length] at hss
 have ha:=rAtoms_fn at' st hsm
 have hwi:=fun l c ts h1 h2 h3=>rWithin_fn at' st l c ts hsm h1 h2 h3
 generalize hn:at'.sum=n at ha hs6 hss hwi ⊢
 by_cases h1:(ss.length:Int)=st∧0≤lp∧lp<ss.length
 ·have e1:shapeB ⟨at',st,ss,lp⟩=true:=decide_eq_true h1
  obtain⟨h11,h12,h13⟩:=h1
  rw[e1,Bool.true_and]
  clear e1
  have h00:0<ss.length:=by omega
  have e0:ss.headD []=ss[Int.toNat 0]'(by show 0<_;omega):=by cases ss with|nil=>simp at h00|cons a l=>rfl
  refine Fn.enter (n:=137) Tryz.func12 rfl rfl rfl rfl rfl (by decide) fun g hro_ hwt_=>?_;(try refine nz ?_)
  (refine j131 ?_;refine j100 ?_;(with_reducible apply AOps.load_bs);(iterate 3 exact rfl);(repeat' first|exact Sub.nil|apply Sub.take|apply Sub.skip);(iterate 3 exact rfl);refine zA (hu) ?_;refine j107 ?_;refine j85 ?_;refine j117 ?_;refine zs ?_;refine zF ?_;refine j85 ?_;refine j117 ?_;refine AOps.fieldAddrN 33 0 0 rfl rfl rfl rfl ?_;refine zy ?_;refine j190 ?_;refine AOps.geq rfl rfl rfl rfl rfl ?_;refine zF ?_;refine j166 ?_;refine j2 ?_;refine AOps.fieldAddrN 33 0 0 rfl rfl rfl rfl ?_;(with_reducible apply AOps.load_bs);(iterate 3 exact rfl);(repeat' first|exact Sub.nil|apply Sub.take|apply Sub.skip);(iterate 3 exact rfl);refine zA (ha) ?_;refine j311 ?_)
  (refine nz ?_;apply AW.loopR [5,25,21,12,3,2] [1,0] (fun i:Nat=>([(6,litI i)]:List (Nat×AV))) (fun i:Nat=>([]:List (Nat×Option Ob))) (fun i:Nat=>i≤fs.length∧rFlds n at' fs.length so.length ss 0 fs=rFlds n at' fs.length so.length ss i (fs.drop i)) (fun i:Nat=>fs.length - i) (0);(conv=>lhs;simp only[Nf.lpR,Nf.all,Nat.reduceBEq,reduceAdd,reduceSub]);(all_goals skip))
  ·exact⟨Nat.zero_le _,rfl⟩
  ·exact j45
  rintro i ⟨hi,he⟩
  by_cases hlt:i<fs.length
  ·rw[rFlds_drop hlt,e0] at he
   have hcf:=rField_fn ⟨so,fs,p,q⟩ fs[i] (hfl _ (List.getElem_mem hlt))
   have hfli:=hfl _ (List.getElem_mem hlt)
   simp only at hcf
   cases h2:colsB so.length fs[i].sorts with
   |false=>
    rw[h2] at hcf
    rw[h2,Bool.false_and,Bool.false_and] at he
    rw[he,Bool.false_and]
    (refine j275 ?_;refine zm ?_;(focus ((with_reducible apply AOps.index_map);(iterate 7 exact rfl);rotate_left;omega));refine j56 ?_;refine zo ?_;refine zq ?_;refine j137 ?_;refine zA (hcf) ?_;refine j300 ?_;refine thenD_ret ?_;refine j10 ?_)
    (apply ends_ret;(exact Res.one (.tmp rfl rfl));(refine Le.litB ?_;(rfl)))
   |true=>
    rw[h2] at hcf
    rw[h2,Bool.true_and] at he
    (refine j275 ?_;refine zm ?_;(focus ((with_reducible apply AOps.index_map);(iterate 7 exact rfl);rotate_left;omega));refine j56 ?_;refine zo ?_;refine zq ?_;refine j137 ?_;refine zA (hcf) ?_;refine j82 ?_;refine j29 ?_;refine j2 ?_;refine j92 ?_)
    (refine nz ?_;apply AW.loopR [7,6,5,25,21,12,3,2] [2,1,0] (fun j:Nat=>([(8,litI j)]:List (Nat×AV))) (fun j:Nat=>([]:List (Nat×Option Ob))) (fun j:Nat=>j≤ss.length∧rRows n at' fs.length i fs[i] (ss[Int.toNat 0]'(by show 0<_;omega)) ss=rRows n at' fs.length i fs[i] (ss[Int.toNat 0]'(by show 0<_;omega)) (ss.drop j)∧(0<j→(ss[Int.toNat 0]'(by show 0<_;omega)).length=fs.length)) (fun j:Nat=>ss.length - j) (0);(conv=>lhs;simp only[Nf.lpR,Nf.all,Nat.reduceBEq,reduceAdd,reduceSub]);(all_goals skip))
    ·exact⟨Nat.zero_le _,rfl,fun h=>absurd h (by omega)⟩
    ·exact j45
    rintro j ⟨hj,hre,hlen0⟩
    by_cases hlt2:j<ss.length
    ·rw[rRows_drop hlt2] at hre
     by_cases hsl:ss[j].length=fs.length
     ·have hlen0:(ss[Int.toNat 0]'(by show 0<_;omega)).length=fs.length:=by
       by_cases hj0:0<j
       ·exact hlen0 hj0
       ·obtain rfl:j=0:=by omega
        exact hsl
      have hlt4:i<ss[j].length:=by omega
      have hlt5:i<(ss[Int.toNat 0]'(by show 0<_;omega)).length:=by omega
      have hlt6:i<(ss[0]'(by omega)).length:=hlt5
      have es:rRow n at' fs.length i fs[i] (ss[Int.toNat 0]'(by show 0<_;omega)) ss[j]=rCell n at' fs[i] ss[j][i] ((ss[Int.toNat 0]'(by show 0<_;omega))[i]):=by
       unfold rRow
       rw[decide_eq_true hsl,Bool.true_and,List.getD_eq_getElem?_getD,List.getElem?_eq_getElem hlt4,List.getD_eq_getElem?_getD,List.getElem?_eq_getElem hlt5];rfl
      rw[es] at hre
      unfold rCell at hre
      have hrv:=rValid06_fn n ss[j][i]
      by_cases h4:(ss[j][i]).1=fs[i].sorts.length
      ·rw[decide_eq_true h4,Bool.true_and] at hre
       cases h5:relOk n ss[j][i] with
       |false=>
        rw[h5] at hrv hre
        rw[Bool.false_and,Bool.false_and] at hre
        rw[hre,Bool.false_and] at he
        rw[he,Bool.false_and]
        (refine j336 ?_;(with_reducible apply AW.regionQ);exact rfl;exact rfl;kernel_rfl;(with_reducible assumption);refine j327 ?_;(focus ((with_reducible apply AOps.index_map);(iterate 7 exact rfl);rotate_left;omega));refine j198 ?_;refine zm ?_;(focus ((with_reducible apply AOps.index_map);(iterate 7 exact rfl);rotate_left;omega));refine zr ?_;refine zm ?_;(focus ((with_reducible apply AOps.index_map);(iterate 7 exact rfl);rotate_left;omega));refine j252 ?_;show AOps .held _ _ _ [_,_,_,_,_,_,_,_,_] _ _;refine j169 ?_;refine j6 ?_;intro k_ hk_;refine AR.step1M (i:=9) rfl (by kernel_rfl) rfl ?_;intro g_ hgro_ hw_;refine zy ?_;refine zA (hrv) ?_;refine j6 ?_;refine j286 ?_;intro g_ hgro_;show AOps .held _ _ _ [_,_,_,_,_,_,_,_] _ _;refine j123 ?_;refine zm ?_;refine j290 ?_;refine j6 ?_;intro k_ hk_;refine nz ?_;refine AR.step1M (i:=18) rfl (by kernel_rfl) rfl ?_;intro g_ hgro_ hw_;refine AOps.guard_lf rfl rfl rfl rfl rfl rfl rfl ?_;refine j246 ?_;intro g_ hgro_;show AOps .held _ _ _ [_,_,_,_,_,_,_,_,_,_,_,_,_,_,_] _ _;refine AOps.guard_lf rfl rfl rfl rfl rfl rfl rfl ?_;refine j129 ?_;refine j134 ?_;(iterate 8 refine AOps.guard_u rfl rfl rfl rfl rfl rfl ?_);refine j6 ?_;intro k_ hk_;refine nz ?_;refine AR.step1M (i:=34) rfl (by kernel_rfl) rfl ?_;intro g_ hgro_ hw_;refine j257 ?_;intro g_ hgro_;show AOps .held _ _ _ [_,_,_] _ _;refine j225 ?_;intro k_ hk_;refine j349 ?_)
        (apply ends_ret;(exact Res.one (.tmp rfl rfl));(refine Le.litB ?_;(rfl)))
       |true=>
        rw[h5] at hrv hre
        rw[Bool.true_and] at hre
        have hw:=hwi fs[i].sorts (ss[j][i]).1 (ss[j][i]).2 hfli (by have:=relOk_len h5;omega) (relOk_mem h5)
        cases h6:withinB at' (max 1 n) fs[i].sorts (ss[j][i]).2 with
        |false=>
         rw[h6] at hw hre
         rw[Bool.false_and,Bool.false_and] at hre
         rw[hre,Bool.false_and] at he
         rw[he,Bool.false_and]
         (refine j336 ?_;(with_reducible apply AW.regionQ);exact rfl;exact rfl;kernel_rfl;(with_reducible assumption);refine j327 ?_;(focus ((with_reducible apply AOps.index_map);(iterate 7 exact rfl);rotate_left;omega));refine j198 ?_;refine zm ?_;(focus ((with_reducible apply AOps.index_map);(iterate 7 exact rfl);rotate_left;omega));refine zr ?_;refine zm ?_;(focus ((with_reducible apply AOps.index_map);(iterate 7 exact rfl);rotate_left;omega));refine j252 ?_;show AOps .held _ _ _ [_,_,_,_,_,_,_,_,_] _ _;refine j169 ?_;refine j6 ?_;intro k_ hk_;refine AR.step1M (i:=9) rfl (by kernel_rfl) rfl ?_;intro g_ hgro_ hw_;refine zy ?_;refine zA (hrv) ?_;refine j6 ?_;refine j286 ?_;intro g_ hgro_;show AOps .held _ _ _ [_,_,_,_,_,_,_,_] _ _;refine j123 ?_;refine zm ?_;refine zl ?_;refine j193 ?_;(with_reducible apply AOps.load_bs);(iterate 3 exact rfl);(repeat' first|exact Sub.nil|apply Sub.take|apply Sub.skip);(iterate 3 exact rfl);refine zl ?_;refine AOps.fieldAddrN 52 1 1 rfl rfl rfl rfl ?_;refine zl ?_;refine zb ?_;refine zl ?_;refine j27 ?_;refine j6 ?_;intro k_ hk_;refine AR.step1M (i:=18) rfl (by kernel_rfl) rfl ?_;intro g_ hgro_ hw_;refine zl ?_;refine zA (hw) ?_;refine j246 ?_;intro g_ hgro_;show AOps .held _ _ _ [_,_,_,_,_,_,_,_,_,_,_,_,_,_,_] _ _;refine j262 ?_;refine AOps.pick_lf rfl rfl rfl rfl rfl rfl ?_;refine zm ?_;refine j134 ?_;(iterate 8 refine AOps.guard_u rfl rfl rfl rfl rfl rfl ?_);refine j6 ?_;intro k_ hk_;refine nz ?_;refine AR.step1M (i:=34) rfl (by kernel_rfl) rfl ?_;intro g_ hgro_ hw_;refine j257 ?_;intro g_ hgro_;show AOps .held _ _ _ [_,_,_] _ _;refine j225 ?_;intro k_ hk_;refine j349 ?_)
         (apply ends_ret;(exact Res.one (.tmp rfl rfl));(refine Le.litB ?_;(rfl)))
        |true=>
         rw[h6] at hw hre
         rw[Bool.true_and] at hre
         have heq:=rEqual_fn ss[j][i] ((ss[Int.toNat 0]'(by show 0<_;omega))[i])
         cases hv:fs[i].var with
         |true=>
          rw[hv,Bool.true_or,Bool.true_and] at hre
          have hv':(!fs[i].var)=false:=by rw[hv];rfl
          (refine j336 ?_;(with_reducible apply AW.regionQ);exact rfl;exact rfl;kernel_rfl;(with_reducible assumption);refine j327 ?_;(focus ((with_reducible apply AOps.index_map);(iterate 7 exact rfl);rotate_left;omega));refine j198 ?_;refine zm ?_;(focus ((with_reducible apply AOps.index_map);(iterate 7 exact rfl);rotate_left;omega));refine zr ?_;refine zm ?_;(focus ((with_reducible apply AOps.index_map);(iterate 7 exact rfl);rotate_left;omega));refine j56 ?_;refine zo ?_;(with_reducible apply AW.regionQ);exact rfl;exact rfl;kernel_rfl;(with_reducible assumption);refine j362 ?_;(with_reducible apply AOps.load_bs);(iterate 3 exact rfl);(repeat' first|exact Sub.nil|apply Sub.take|apply Sub.skip);(iterate 3 exact rfl);refine j141 ?_;(iterate 10 refine AOps.guard_lf rfl rfl rfl rfl rfl (by assumption) rfl ?_);refine zl ?_;refine AOps.pickBf rfl rfl (by assumption) rfl rfl rfl rfl ?_;refine j127 ?_;refine j302 ?_)
          exact⟨j+1,⟨by omega,hre,fun _=>hlen0⟩,by omega,weak rfl (by(first|(refine⟨.eq rfl rfl,?_⟩;(iterate 8 refine⟨.eq rfl rfl,?_⟩);exact trivial)|(exact j183)|(exact j278))) (by(first|(refine⟨.box _ rfl ?_,?_⟩;(iterate 3 refine⟨.eq rfl rfl,?_⟩);exact trivial;refine j16 ?_;exact j30)|(refine j16 ?_;exact j30))) rfl⟩
         |false=>
          rw[hv,Bool.false_or] at hre
          have hv':(!fs[i].var)=true:=by rw[hv];rfl
          by_cases h7:ss[j][i]=((ss[Int.toNat 0]'(by show 0<_;omega))[i])
          ·rw[decide_eq_true h7] at heq hre
           rw[Bool.true_and] at hre
           (refine j336 ?_;(with_reducible apply AW.regionQ);exact rfl;exact rfl;kernel_rfl;(with_reducible assumption);refine j327 ?_;(focus ((with_reducible apply AOps.index_map);(iterate 7 exact rfl);rotate_left;omega));refine j198 ?_;refine zm ?_;(focus ((with_reducible apply AOps.index_map);(iterate 7 exact rfl);rotate_left;omega));refine zr ?_;refine zm ?_;(focus ((with_reducible apply AOps.index_map);(iterate 7 exact rfl);rotate_left;omega));refine j56 ?_;refine zo ?_;(with_reducible apply AW.regionQ);exact rfl;exact rfl;kernel_rfl;(with_reducible assumption);refine j362 ?_;(with_reducible apply AOps.load_bs);(iterate 3 exact rfl);(repeat' first|exact Sub.nil|apply Sub.take|apply Sub.skip);(iterate 3 exact rfl);refine j141 ?_;refine j221 ?_;(focus ((with_reducible apply AOps.index_map);(iterate 7 exact rfl);rotate_left;omega));refine j366 ?_;(focus ((with_reducible apply AOps.index_map);(iterate 7 exact rfl);rotate_left;omega));refine j322 ?_;refine j127 ?_;refine j302 ?_)
           exact⟨j+1,⟨by omega,hre,fun _=>hlen0⟩,by omega,weak rfl (by(first|(refine⟨.eq rfl rfl,?_⟩;(iterate 8 refine⟨.eq rfl rfl,?_⟩);exact trivial)|(exact j183)|(exact j278))) (by(first|(refine⟨.box _ rfl ?_,?_⟩;(iterate 3 refine⟨.eq rfl rfl,?_⟩);exact trivial;refine j16 ?_;exact j30)|(refine j16 ?_;exact j30))) rfl⟩
          ·rw[decide_eq_false h7] at heq hre
           rw[Bool.false_and] at hre
           rw[hre,Bool.false_and] at he
           rw[he,Bool.false_and]
           (refine j336 ?_;(with_reducible apply AW.regionQ);exact rfl;exact rfl;kernel_rfl;(with_reducible assumption);refine j327 ?_;(focus ((with_reducible apply AOps.index_map);(iterate 7 exact rfl);rotate_left;omega));refine j198 ?_;refine zm ?_;(focus ((with_reducible apply AOps.index_map);(iterate 7 exact rfl);rotate_left;omega));refine zr ?_;refine zm ?_;(focus ((with_reducible apply AOps.index_map);(iterate 7 exact rfl);rotate_left;omega));refine j56 ?_;refine zo ?_;(with_reducible apply AW.regionQ);exact rfl;exact rfl;kernel_rfl;(with_reducible assumption);refine j362 ?_;(with_reducible apply AOps.load_bs);(iterate 3 exact rfl);(repeat' first|exact Sub.nil|apply Sub.take|apply Sub.skip);(iterate 3 exact rfl);refine j141 ?_;refine j221 ?_;(focus ((with_reducible apply AOps.index_map);(iterate 7 exact rfl);rotate_left;omega));refine j366 ?_;(focus ((with_reducible apply AOps.index_map);(iterate 7 exact rfl);rotate_left;omega));refine j322 ?_;refine AOps.pick_lf rfl rfl rfl rfl rfl rfl ?_;refine j25 ?_;refine j35 ?_)
           (apply ends_ret;(exact Res.one (.tmp rfl rfl));(refine Le.litB ?_;(rfl)))
      ·rw[decide_eq_false h4,Bool.false_and,Bool.false_and] at hre
       rw[hre,Bool.false_and] at he
       rw[he,Bool.false_and]
       (refine j336 ?_;(with_reducible apply AW.regionQ);exact rfl;exact rfl;kernel_rfl;(with_reducible assumption);refine j327 ?_;(focus ((with_reducible apply AOps.index_map);(iterate 7 exact rfl);rotate_left;omega));refine j198 ?_;refine zm ?_;(focus ((with_reducible apply AOps.index_map);(iterate 7 exact rfl);rotate_left;omega));refine zr ?_;refine zm ?_;(focus ((with_reducible apply AOps.index_map);(iterate 7 exact rfl);rotate_left;omega));refine j252 ?_;show AOps .held _ _ _ [_,_,_,_,_,_,_,_,_] _ _;refine j89 ?_;refine j57 ?_;refine j70 ?_;refine zm ?_;refine j109 ?_;refine j6 ?_;intro k_ hk_;refine nz ?_;refine AR.step1M (i:=9) rfl (by kernel_rfl) rfl ?_;intro g_ hgro_ hw_;refine j151 ?_;refine j6 ?_;refine j286 ?_;intro g_ hgro_;show AOps .held _ _ _ [_,_,_,_,_,_,_,_] _ _;refine j151 ?_;refine j315 ?_;refine j290 ?_;refine j6 ?_;intro k_ hk_;refine nz ?_;refine AR.step1M (i:=18) rfl (by kernel_rfl) rfl ?_;intro g_ hgro_ hw_;refine AOps.guard_lf rfl rfl rfl rfl rfl rfl rfl ?_;refine j246 ?_;intro g_ hgro_;show AOps .held _ _ _ [_,_,_,_,_,_,_,_,_,_,_,_,_,_,_] _ _;refine AOps.guard_lf rfl rfl rfl rfl rfl rfl rfl ?_;refine j129 ?_;refine j134 ?_;(iterate 8 refine AOps.guard_u rfl rfl rfl rfl rfl rfl ?_);refine j6 ?_;intro k_ hk_;refine nz ?_;refine AR.step1M (i:=34) rfl (by kernel_rfl) rfl ?_;intro g_ hgro_ hw_;refine j257 ?_;intro g_ hgro_;show AOps .held _ _ _ [_,_,_] _ _;refine j225 ?_;intro k_ hk_;refine j349 ?_)
       (apply ends_ret;(exact Res.one (.tmp rfl rfl));(refine Le.litB ?_;(rfl)))
     ·have es:rRow n at' fs.length i fs[i] (ss[Int.toNat 0]'(by show 0<_;omega)) ss[j]=false:=by unfold rRow;rw[decide_eq_false hsl,Bool.false_and]
      rw[es,Bool.false_and] at hre
      rw[hre,Bool.false_and] at he
      rw[he,Bool.false_and]
      (refine j336 ?_;(with_reducible apply AW.regionQ);exact rfl;exact rfl;kernel_rfl;(with_reducible assumption);refine j327 ?_;(focus ((with_reducible apply AOps.index_map);(iterate 7 exact rfl);rotate_left;omega));refine zr ?_;refine zn ?_;refine j47 ?_;refine j70 ?_;refine j268 ?_;refine j35 ?_)
      all_goals (apply ends_ret;(exact Res.one (.tmp rfl rfl));(refine Le.litB ?_;(rfl)))
    ·obtain rfl:j=ss.length:=by omega
     rw[List.drop_length] at hre
     have hre:rRows n at' fs.length i fs[i] (ss[Int.toNat 0]'(by show 0<_;omega)) ss=true:=hre
     rw[hre,Bool.true_and] at he
     (refine j26 ?_;refine j22 ?_;refine zn ?_;refine j139 ?_;refine j4 ?_;refine j48 ?_)
     exact⟨i+1,⟨by omega,he⟩,by omega,weak rfl (by(first|(refine⟨.eq rfl rfl,?_⟩;(iterate 8 refine⟨.eq rfl rfl,?_⟩);exact trivial)|(refine⟨.eq rfl rfl,?_⟩;(iterate 6 refine⟨.eq rfl rfl,?_⟩);exact trivial)|(refine⟨.eq rfl rfl,?_⟩;(iterate 2 refine⟨.eq rfl rfl,?_⟩);exact trivial))) (by(first|(refine⟨.box _ rfl ?_,?_⟩;(iterate 3 refine⟨.eq rfl rfl,?_⟩);exact trivial;refine⟨.box _ rfl ?_,?_⟩;(iterate 4 refine⟨.eq rfl rfl,?_⟩);exact trivial;refine⟨.box _ rfl ?_,?_⟩;(iterate 4 refine⟨.eq rfl rfl,?_⟩);(iterate 2 exact trivial))|(refine⟨.box _ rfl ?_,?_⟩;(iterate 4 refine⟨.eq rfl rfl,?_⟩);exact trivial;refine⟨.box _ rfl ?_,?_⟩;(iterate 4 refine⟨.eq rfl rfl,?_⟩);(iterate 2 exact trivial)))) rfl⟩
  ·obtain rfl:i=fs.length:=by omega
   rw[List.drop_length] at he
   have he:rFlds n at' fs.length so.length ss 0 fs=true:=he
   rw[he,Bool.true_and]
   (refine j238 ?_;refine zn ?_;refine j218 ?_;refine j92 ?_)
   (refine nz ?_;apply AW.loopR [3,2] [1,0] (fun j:Nat=>([(10,litI j)]:List (Nat×AV))) (fun j:Nat=>([]:List (Nat×Option Ob))) (fun j:Nat=>j≤ss.length∧lensB fs.length ss=lensB fs.length (ss.drop j)) (fun j:Nat=>ss.length - j) (0);(conv=>lhs;simp only[Nf.lpR,Nf.all,Nat.reduceBEq,reduceAdd,reduceSub]);(all_goals skip))
   ·exact⟨Nat.zero_le _,rfl⟩
   ·exact j45
   rintro j ⟨hj,hre⟩
   by_cases hlt2:j<ss.length
   ·rw[lensB_drop hlt2] at hre
    by_cases hsl:ss[j].length=fs.length
    ·rw[decide_eq_true hsl,Bool.true_and] at hre
     (refine j175 ?_;refine zo ?_;(with_reducible apply AW.regionQ);exact rfl;exact rfl;kernel_rfl;(with_reducible assumption);refine j327 ?_;(focus ((with_reducible apply AOps.index_map);(iterate 7 exact rfl);rotate_left;omega));refine zr ?_;refine zn ?_;refine j47 ?_;refine j70 ?_;refine j316 ?_)
     exact⟨j+1,⟨by omega,hre⟩,by omega,weak rfl (by(first|(refine⟨.eq rfl rfl,?_⟩;(iterate 8 refine⟨.eq rfl rfl,?_⟩);exact trivial)|(refine⟨.eq rfl rfl,?_⟩;(iterate 6 refine⟨.eq rfl rfl,?_⟩);exact trivial)|(refine⟨.eq rfl rfl,?_⟩;(iterate 2 refine⟨.eq rfl rfl,?_⟩);exact trivial))) (by(first|(refine⟨.box _ rfl ?_,?_⟩;(iterate 3 refine⟨.eq rfl rfl,?_⟩);exact trivial;refine⟨.box _ rfl ?_,?_⟩;(iterate 4 refine⟨.eq rfl rfl,?_⟩);exact trivial;refine⟨.box _ rfl ?_,?_⟩;(iterate 4 refine⟨.eq rfl rfl,?_⟩);(iterate 2 exact trivial))|(refine⟨.box _ rfl ?_,?_⟩;(iterate 4 refine⟨.eq rfl rfl,?_⟩);exact trivial;refine⟨.box _ rfl ?_,?_⟩;(iterate 4 refine⟨.eq rfl rfl,?_⟩);(iterate 2 exact trivial)))) rfl⟩
    ·rw[decide_eq_false hsl,Bool.false_and] at hre
     (refine j175 ?_;refine zo ?_;(with_reducible apply AW.regionQ);exact rfl;exact rfl;kernel_rfl;(with_reducible assumption);refine j327 ?_;(focus ((with_reducible apply AOps.index_map);(iterate 7 exact rfl);rotate_left;omega));refine zr ?_;refine zn ?_;refine j47 ?_;refine j70 ?_;refine j185 ?_)
     all_goals (apply ends_ret;(exact Res.one (.tmp rfl rfl));(refine Le.litB ?_;(exact hre.symm)))
   ·obtain rfl:j=ss.length:=by omega
    rw[List.drop_length] at hre
    have hre:lensB fs.length ss=true:=hre
    rw[hre]
    (refine j26 ?_;refine j22 ?_;refine j337 ?_)
    (apply ends_ret;(exact Res.one (.tmp rfl rfl));(refine Le.litB ?_;(rfl)))
 ·have e1:shapeB ⟨at',st,ss,lp⟩=false:=decide_eq_false h1
  rw[e1,Bool.false_and]
  refine Fn.enter (n:=137) Tryz.func12 rfl rfl rfl rfl rfl (by decide) fun g hro_ hwt_=>?_;(try refine nz ?_)
  (refine j131 ?_;refine j100 ?_;(with_reducible apply AOps.load_bs);(iterate 3 exact rfl);(repeat' first|exact Sub.nil|apply Sub.take|apply Sub.skip);(iterate 3 exact rfl);refine zA (hu) ?_;refine j107 ?_;refine zm ?_;(focus ((with_reducible apply AOps.guardF);(iterate 6 exact rfl);all_goals intro hc_));refine j117 ?_;refine zs ?_;refine zF ?_;refine zm ?_;(focus ((with_reducible apply AOps.guardF);(iterate 6 exact rfl);all_goals intro hc_));refine j117 ?_;refine AOps.fieldAddrN 33 0 0 rfl rfl rfl rfl ?_;refine zy ?_;refine j190 ?_;refine AOps.geq rfl rfl rfl rfl rfl ?_;refine zF ?_;refine j268 ?_;(all_goals skip);rotate_left;refine j217 ?_;refine j148 ?_;(all_goals skip);rotate_left;refine j109 ?_;refine j315 ?_;refine j298 ?_;(all_goals skip);rotate_left)
  all_goals (apply ends_ret;(exact Res.one (.tmp rfl rfl));(refine Le.litB ?_;(rfl)))
end Go.Ab
