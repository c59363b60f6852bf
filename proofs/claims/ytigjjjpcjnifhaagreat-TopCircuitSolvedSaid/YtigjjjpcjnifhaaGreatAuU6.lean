/- Chapter 23: the checker's run. -/
import Derived.Test.YtigjjjpcjnifhaaGreatAuC2
import Derived.Test.YtigjjjpcjnifhaaGreatAbZ
import Derived.Test.YtigjjjpcjnifhaaGreatAbL3
import Derived.Test.YtigjjjpcjnifhaaGreatAuU5
set_option linter.unusedSimpArgs false
set_option linter.unusedVariables false
open Nat renaming reduceBEq→df,zero_le→bm,add_assoc→bG
open Bool renaming false_or→dS
open List renaming findIdx_cons→eP,getElem_mem→cY,map_append→cR,getD_eq_getElem?_getD→c6,getElem?_eq_getElem→a8,length_take→cO
namespace Go.Ab
open Go Go.Proofs
open Nat (reduceAdd reduceSub)
set_option maxRecDepth 20000
set_option maxHeartbeats 8000000
attribute [local irreducible] AW a_ gr fz AR fH fv fM gk canon kf kG pA qs nK e8 jm ia
theorem FX (l:List (List Int)) (hl:l.length≤1000000):MY Tryz.prog 73 [.pv (j3 l)] 25 1 (l.map fun c=>[ints c]):=by
 refine MY.enter (n:=8) Tryz.func73 rfl rfl rfl rfl rfl (by decide) fun g fp fl=>?_;(try refine nz ?_)
 by_cases h0:l=[]
 ·subst h0
  have e0:([]:List (List Int)).length=0:=rfl
  (refine rK ?_;(focus ((with_reducible apply a_.tv);(iterate 6 exact rfl);all_goals intro oD));refine oz ?_;refine qP ?_;(all_goals skip);rotate_left;refine HD ?_;refine zm ?_;(with_reducible apply a_.fD);exact rfl;exact ah;(iterate 9 exact rfl);exact aa;refine nz ?_;refine xV ?_;(all_goals skip);rotate_left)
  all_goals ((first|(refine jo (gm.one (.tmp rfl rfl)) ?_)|(refine jo (gm.one (.cell1 rfl rfl rfl rfl)) ?_)|(refine nX (gm.one (.tmp rfl rfl)) ?_));(first|rfl|simp))
 ·have e0:0<l.length:=List.length_pos_iff.2 h0
  have e1:¬(l.map fun c=>[ints c])=[]:=by simpa using h0
  clear h0
  (refine rK ?_;(focus ((with_reducible apply a_.tv);(iterate 6 exact rfl);all_goals intro oD));refine oz ?_;refine qP ?_;(all_goals skip);rotate_left;refine HD ?_;refine zm ?_;(with_reducible apply a_.fD);exact rfl;exact ah;(iterate 9 exact rfl);exact aa;refine nz ?_;refine xV ?_;(all_goals skip);rotate_left)
  ·exact absurd oD e1
  ·((first|(refine jo (gm.one (.tmp rfl rfl)) ?_)|(refine jo (gm.one (.cell1 rfl rfl rfl rfl)) ?_)|(refine nX (gm.one (.tmp rfl rfl)) ?_));(first|rfl|simp))
theorem OD (cl:List (List Int)) (hl:cl.length≤1000000):Fn Tryz.prog 74 [.pv (j3 cl),.jx (.func 75) [] []] (fq (cl.any fun c=>decide ((c.length:Int)=0))):=by
 refine Fn.enter (n:=9) Tryz.func74 rfl rfl rfl rfl rfl (by decide) fun g fp fl=>?_;(try refine nz ?_)
 (refine u6 ?_;refine IV ?_;(with_reducible apply a_.inline (hf:=Tryz.func97));(with_reducible assumption);(iterate 10 exact rfl);intro g_ fp fl;refine nz ?_;refine rK ?_;refine nq ?_)
 (refine nz ?_;apply AW.gJ [7,0,1,1006,1005,1004,1000,1001] [] (fun k:Nat=>([(8,eU k)]:List (Nat×AV))) (fun k:Nat=>([]:List (Nat×Option Ob))) (fun k:Nat=>k≤cl.length∧(cl.take k).any (fun c=>decide ((c.length:Int)=0))=false) (fun k:Nat=>cl.length - k) (0);(conv=>lhs;simp only[Nf.ot,Nf.all,df,reduceAdd,reduceSub]);(all_goals skip))
 ·exact⟨bm _,rfl⟩
 ·exact fe rfl (by(refine aC ?_;(iterate 8 refine aC ?_);exact trivial)) (by(exact trivial)) rfl
 rintro k ⟨hk,BY⟩
 by_cases fy:k<cl.length
 ·have Cl:=uc (p:=fun c:List Int=>decide ((c.length:Int)=0)) fy
  rw[BY,dS] at Cl
  by_cases he:(cl[k].length:Int)=0
  ·rw[xd (p:=fun c:List Int=>decide ((c.length:Int)=0)) fy (decide_eq_true he)]
   (refine yX ?_;refine aA ?_;refine zr ?_;(with_reducible apply a_.inline (hf:=Tryz.func75));(with_reducible assumption);(iterate 10 exact rfl);intro g_ fp fl;refine qL ?_;refine zm ?_;refine zn ?_;refine a_.eql rfl rfl rfl rfl rfl ?_;refine ku ?_;refine ui ?_;refine jD ?_;refine qE ?_;refine qR ?_;refine ui ?_;refine FA ?_)
   (apply eY;(exact gm.one (.tmp rfl rfl));(refine Le.fq ?_;(first|rfl|exact decide_eq_true aJ)))
  ·rw[decide_eq_false he] at Cl
   (refine yX ?_;refine aA ?_;refine zr ?_;(with_reducible apply a_.inline (hf:=Tryz.func75));(with_reducible assumption);(iterate 10 exact rfl);intro g_ fp fl;refine qL ?_;refine zm ?_;refine zn ?_;refine a_.eql rfl rfl rfl rfl rfl ?_;refine ku ?_;refine ui ?_;refine EM ?_;refine tP ?_)
   exact⟨k+1,⟨by omega,Cl⟩,by omega,fe rfl (by(refine aC ?_;(iterate 8 refine aC ?_);exact trivial)) (by(exact trivial)) rfl⟩
 ·rw[gP (l:=cl) aJ] at BY
  rw[BY]
  (refine zD ?_;refine ui ?_;refine FA ?_)
  (apply eY;(exact gm.one (.tmp rfl rfl));(refine Le.fq ?_;(first|rfl|exact decide_eq_false aJ)))
theorem A3 (e:qO):e.valid.length=e.syms.length:=by unfold qO.valid;simp
theorem J1 (e:qO) {k:Nat} (h:k<e.syms.length):e.valid[k]'(by rw[A3];exact h)=jm e.v0 e.cl0 e.syms[k]:=by simp [qO.valid]
theorem HJ (e:qO):e.valid=e.syms.map (jm e.v0 e.cl0):=rfl
theorem GK {e:qO} {s:o8} {t:gN} (h:t.kind=2):iv e s t=mD s t:=by unfold iv;rw[if_neg aJ,if_pos h]
theorem Ho {e:qO} {s:o8} {t:gN} (h:t.kind=3):iv e s t=lE s t:=by unfold iv;rw[if_neg aJ,if_neg aJ,if_pos h]
theorem GU {e:qO} {s:o8} {t:gN} (h:t.kind=4):iv e s t=qg e s t:=by unfold iv;rw[if_neg aJ,if_neg aJ,if_neg aJ,if_pos h]
theorem Hp {e:qO} {s:o8} {t:gN} (h1:¬t.kind=1) (h2:¬t.kind=2) (h3:¬t.kind=3) (h4:¬t.kind=4):iv e s t=none:=by unfold iv;rw[if_neg h1,if_neg h2,if_neg h3,if_neg h4]
theorem yo (e:qO) (s:o8):jy e s []=(s,0):=by unfold jy;rfl
theorem yR {α:Type} {p:α→Bool}:∀{l:List α} {j:Nat} (hj:j<l.length),(l.take j).any p=false→p l[j]=true→l.findIdx p=j
 |[],j,hj,_,_=>by simp at hj
 |x::l,0,hj,_,h=>by simp at h;simp [eP,h]
 |x::l,j+1,hj,h1,h2=>by
  simp only[List.take_succ_cons,List.any_cons,Bool.or_eq_false_iff] at h1
  have:=yR (l:=l) (by simpa using hj) h1.2 (by simpa using h2)
  simp [eP,h1.1,this]
theorem Bo {e:qO} {s:o8} {t:gN} (h:t.kind=1):iv e s t=n9 s t:=by unfold iv;rw[if_pos h]
theorem a_.delL (j:Nat) (l:List (List Int)) {g:eZ} {δ:DS} {ops:Array Oper} {rest:List Oper} {Q:Exit→DS→Prop} {dst:Option Nat} {ty:TypeId} {pos:String} {af:Array Edge} {x y z:Operand} {tys:Array TypeId} {r:Nat} {e:TypeId} {m:Int}
  (hx:δ.ev x=.own r e 1 (l.map fun c=>[ints c])) (hy:δ.ev y=eU (j:Nat)) (hz:δ.ev z=eU m) (hr:δ.ob r=some .row) (ho:fj x=true) (ga:fj y=true) (o_:fj z=true) (hd:fT δ.n dst=true) (hm:m=(j:Int)+1) (hi:j<l.length)
  (hK:a_ .plain Tryz.prog g ops rest Q ((δ.gU (AV.kill r)).eW dst (.own r e 1 ((l.eraseIdx j).map fun c=>[ints c])))):
  a_ .plain Tryz.prog g ops (⟨dst,.call {callee:=.value (.func 100),args:= #[x,y,z],argTypes:=tys},ty,pos,af,none⟩::rest) Q δ:=a_.Sw Ws hx hy hz hr ho ga o_ hd hm hi hK
theorem AW.mh (id t u i:Nat) {P:Program} {g:eZ} {δ:DS} {Q:Exit→DS→Prop} {b:Bool} {l:Array Oper} {p:PV} {c0 c1 c2 c3 c4:AV} {rf:Bool} (h:δ.get t=.ptr i 0) (hu:δ.get u=.pv p) (hb:δ.ob i=some (.box [c0,c1,c2,c3,c4,fq rf]))
  {cc:Code} (hK:AW P g ((Code.region id l b).seq cc) Q {n:=δ.n,env:=[(t,.gf [.any,.any,.any,.any,.any,.lit (.bool rf)]),(u,.pv p)],gv:=[],nx:=δ.nx}):AW P g ((Code.region id l b).seq cc) Q δ:=
 AW.fe (δ':={n:=δ.n,env:=[(t,.gf [.any,.any,.any,.any,.any,.lit (.bool rf)]),(u,.pv p)],gv:=[],nx:=δ.nx}) (Go.Ab.fe rfl ⟨by rw[h];exact .fbox hb rfl (.cons (.any _) (.cons (.any _) (.cons (.any _) (.cons (.any _) (.cons (.any _) (.cons (.pv _) .nil)))))),by rw[hu];exact .eq rfl rfl,trivial⟩ trivial rfl) hK
def sC:List (Int×Go.Fn):=[(1,.func 69),(2,.func 70),(3,.func 71),(4,.func 72)]
theorem uy (k:Int):jV (A5 sC) k=if k=1 then some (Cn (.func 69)) else if k=2 then some (Cn (.func 70)) else if k=3 then some (Cn (.func 71)) else if k=4 then some (Cn (.func 72)) else none:=rfl
theorem Pq:some (Ob.mp (jl ([]++ [(1,Cn (.func 69))]++ [(2,Cn (.func 70))]++ [(3,Cn (.func 71))]++ [(4,Cn (.func 72))])))=some (Ob.mp (jl (A5 sC))):=rfl
theorem oI {v:Int} {cl:List (List Int)} {sy:List Int} (h:jm v cl sy=true):(sy.length:Int)=v∧e8 v sy=true:=by
 unfold jm at h
 simp only[Bool.and_eq_true,decide_eq_true_eq] at h
 exact⟨h.1.1.1,h.1.1.2⟩
attribute [local irreducible] A5 LW sC jy iv qO.valid
theorem Rx (v:Int) (cl:List (List Int)) (syms:List (List Int)) (l:List gN) (mW:n8 1000 (jE v cl)) (Ld:syms.length≤1000∧∀c∈syms,c.length≤1000) (hl:wS l≤900000∧∀t∈l,t.lits.length≤900):
  Fn Tryz.prog 34 [KA v cl,.pv (j3 syms),.pv (steps l)] (.gY [.gf [.any,.any,.any,.any,.any,.lit (.bool (jy ⟨v,cl,syms⟩ (jE v cl) l).1.ref)],eU ((jy ⟨v,cl,syms⟩ (jE v cl) l).2:Nat)]):=by
 have hf:Um v cl:=mW.f (by omega)
 have KW:cl.length≤1000:=mW.len
 have Ke:0≤v∧v≤20000:=mW.hv
 have hlen:=JR l
 have Qe:=FX cl (by omega)
 have ha0:=OD cl (by omega)
 have ZG:jE v cl=⟨v,cl,cl.any fun c=>decide ((c.length:Int)=0)⟩:=rfl
 refine Fn.enter (n:=83) Tryz.func34 rfl rfl rfl rfl rfl (by decide) fun g fp fl=>?_;(try refine nz ?_)
 (refine ny ?_;refine uf ?_;refine iK ?_;refine a_.makeMap (t:=108) rfl ?_;refine nz ?_;refine OZ ?_;refine nz ?_;refine OZ ?_;refine nz ?_;refine OZ ?_;refine nz ?_;refine OZ ?_;refine nz ?_;refine a_.Jb rfl rfl rfl ?_;refine a_.C2 rfl rfl rfl ?_;refine kW ?_;refine AW.gg [0,1,2,3,6,7,8] [] rfl (by assumption) aI aI rfl ?_;show a_ .held _ _ _ [_,_,_,_,_,_,_] _ _;refine vA ?_;refine vm ?_;refine vA ?_;refine zm ?_;refine Q3 ?_;intro k_ iE;refine nz ?_;refine AR.fA (i:=4) rfl aI rfl ?_;intro g_ b_ fU;(with_reducible apply a_.PG (Qe));exact aj;exact rfl;refine jR ?_;refine AR.free 5 aI rfl rfl rfl (fS.build 24 [0,1] rfl rfl rfl rfl rfl rfl rfl rfl) ?_;(try refine nz ?_);refine AR.free 9 aI rfl rfl rfl (fS.build 73 [0,2,3] rfl rfl rfl rfl rfl rfl rfl rfl) ?_;(try refine nz ?_);refine AR.fA (i:=10) rfl aI rfl ?_;intro g_ b_ fU;refine MU ?_;refine Q3 ?_;refine AR.iP [11] aI aI aI aI ?_;intro g_ b_;show a_ .held _ _ _ [_] _ _;refine a_.p7 rfl rfl rfl ?_;refine Q3 ?_;intro k_ iE;refine nz ?_;refine Cq ?_;refine EX ?_;refine vm ?_;(refine a_.Uo ha0 (.cons rfl (.pv _) .nil) rfl rfl (fun h=>by cases h) ?_);(try refine nz ?_);refine a_.fw rfl rfl rfl ?_;refine a_.c_ 73 4 5 rfl rfl rfl rfl ?_;refine GB ?_;refine nz ?_;refine kW ?_;refine qE ?_;refine nq ?_)
 refine AW.fe (δ':={n:=83,env:=[(8,.pv (.mp (LW sC))),(37,eU 0),(36,eU syms.length),(35,.pv (j3 syms)),(9,.ptr 3 0),(3,.ptr 0 0),(2,.pv (steps l))],gv:=[(3,some (.box [eU v,.own 2 25 1 (cl.map fun c=>[ints c]),eU v,.pv (j3 syms),.pv (.lit (.slice none 0 0)),fq (cl.any fun c=>decide ((c.length:Int)=0))])),(2,some .row),(0,some (.box [eU v,.pv (j3 cl)]))],nx:=4}) (Go.Ab.fe rfl ⟨.fns (l:=sC) Pq rfl,.eq rfl rfl,.eq rfl rfl,.eq rfl rfl,.eq rfl rfl,.eq rfl rfl,.eq rfl rfl,trivial⟩ ⟨.box _ rfl ⟨.eq rfl rfl,.eq rfl rfl,.eq rfl rfl,.eq rfl rfl,.eq rfl rfl,.eq rfl rfl,trivial⟩,.row rfl,.box _ rfl ⟨.eq rfl rfl,.eq rfl rfl,trivial⟩,trivial⟩ rfl) ?_
 (apply AW.gJ [8,36,35,9,3,2] [2,0] (fun i:Nat=>([(37,eU i)]:List (Nat×AV))) (fun i:Nat=>([(3,some (.box [eU v,.own 2 25 1 (cl.map fun c=>[ints c]),eU v,.pv (j3 syms),.own 4 4 1 (((syms.take i).map (jm v cl)).map kX),fq (cl.any fun c=>decide ((c.length:Int)=0))])),(4,some .row)]:List (Nat×Option Ob))) (fun i:Nat=>i≤syms.length) (fun i:Nat=>syms.length - i) (0);(conv=>lhs;simp only[Nf.ot,Nf.all,df,reduceAdd,reduceSub]);(all_goals skip))
 ·exact bm _
 ·exact Q8
 rintro i hi
 by_cases fy:i<syms.length
 ·have hso:=MH v cl syms[i] hf (by have:=Ld.2 _ (cY fy);omega)
  have sM:(syms.take (i+1)).map (jm v cl)=(syms.take i).map (jm v cl)++ [jm v cl syms[i]]:=by rw[fI fy,cR];rfl
  have FL:((syms.take i).map (jm v cl)).length≤1000:=by simp;omega
  (refine Cj ?_;refine aA ?_;refine zr ?_;refine lK ?_;refine AW.gg [0,1,2,3,4,5,6] [12] rfl (by assumption) aI aI rfl ?_;show a_ .held _ _ _ [_,_,_,_,_,_,_] _ _;refine GW ?_;refine a_.c_ 73 3 4 rfl rfl rfl rfl ?_;refine zb ?_;refine mJ ?_;refine zm ?_;refine Q3 ?_;intro k_ iE;refine nz ?_;refine AR.fA (i:=7) rfl aI rfl ?_;intro g_ b_ fU;refine zA (hso) ?_;refine Q3 ?_;refine AR.fA (i:=8) rfl aI rfl ?_;intro g_ b_ fU;refine tE ?_;refine Pe ?_;intro g_ b_ fU;(with_reducible apply a_.fD);exact rfl;exact ah;(iterate 9 exact rfl);exact aa;refine jR ?_;refine AR.iP [10,11] aI aI aI aI ?_;intro g_ b_;show a_ .held _ _ _ [_,_] _ _;refine a_.fw rfl rfl rfl ?_;refine a_.c_ 73 3 4 rfl rfl rfl rfl ?_;refine Q3 ?_;intro k_ iE;refine nz ?_;refine AM ?_;intro g_ b_ eT;refine tq ?_;refine AR.Gt (by assumption) aI ?_;refine tP ?_)
  exact⟨i+1,by omega,by omega,fe rfl (by(refine⟨.gq (by first|rfl|(rw[sM,cR];rfl)),?_⟩;refine aC ?_;refine⟨.gq (by first|rfl|(rw[sM,cR];rfl)),?_⟩;refine⟨.iz (by first|rfl|(rw[sM,cR];rfl)),?_⟩;(iterate 2 refine aC ?_);refine⟨.iz (by first|rfl|(rw[sM,cR];rfl)),?_⟩;exact trivial)) (by(refine⟨.box _ rfl ?_,?_⟩;refine⟨.gq (by first|rfl|(rw[sM,cR];rfl)),?_⟩;refine⟨.ff (by first|rfl|(rw[sM,cR];rfl)) rfl,?_⟩;refine⟨.gq (by first|rfl|(rw[sM,cR];rfl)),?_⟩;refine⟨.iz (by first|rfl|(rw[sM,cR];rfl)),?_⟩;refine⟨.ff (by first|rfl|(rw[sM,cR];rfl)) rfl,?_⟩;refine⟨.lh (by first|rfl|(rw[sM,cR];rfl)),?_⟩;exact trivial;(iterate 2 refine aF ?_);refine⟨.box _ rfl ?_,?_⟩;refine⟨.gq (by first|rfl|(rw[sM,cR];rfl)),?_⟩;refine⟨.iz (by first|rfl|(rw[sM,cR];rfl)),?_⟩;(iterate 2 exact trivial))) rfl⟩
 ·rw[gP (l:=syms) aJ]
  have Rg:=A3 ⟨v,cl,syms⟩
  have hvd:=(HJ ⟨v,cl,syms⟩).symm
  simp only at hvd Rg
  rw[hvd]
  have xp:jy ⟨v,cl,syms⟩ (jE v cl) l=((jy ⟨v,cl,syms⟩ (jE v cl) (l.drop 0)).1,(jy ⟨v,cl,syms⟩ (jE v cl) (l.drop 0)).2+0):=by rw[List.drop_zero];rfl
  generalize jy ⟨v,cl,syms⟩ (jE v cl) l=R at xp ⊢
  (refine Cp ?_;refine zo ?_;refine j6 ?_;refine nq ?_)
  clear hi fy
  (refine nz ?_;apply AW.gJ [55,54,8,9,2] [4,2] (fun p:Nat×o8=>([(56,eU p.1)]:List (Nat×AV))) (fun p:Nat×o8=>([(3,some (.box [eU p.2.vars,.own 2 25 1 (p.2.cl.map fun c=>[ints c]),eU v,.pv (j3 syms),.own 4 4 1 ((qO.valid ⟨v,cl,syms⟩).map kX),fq p.2.ref]))]:List (Nat×Option Ob))) (fun p:Nat×o8=>p.1≤l.length∧n8 (1000+wS (l.take p.1)) p.2∧R=((jy ⟨v,cl,syms⟩ p.2 (l.drop p.1)).1,(jy ⟨v,cl,syms⟩ p.2 (l.drop p.1)).2+p.1)) (fun p:Nat×o8=>l.length - p.1) ((0,jE v cl));(conv=>lhs;simp only[Nf.ot,Nf.all,df,reduceAdd,reduceSub]);(all_goals skip))
  ·exact⟨bm _,mW,xp⟩
  ·exact Q8
  rintro⟨i,s⟩ ⟨hi,EB,fF⟩
  simp only at hi EB fF ⊢
  have hwi:=G2 l i
  by_cases fy:i<l.length
  ·have hL:=hl.2 _ (cY fy)
   have W8:=EB.hv
   have hfs:=EB.f (by omega)
   have S5:=EB.len
   have hw:=pZ s.vars l[i].lits (by omega)
   by_cases k1:l[i].kind=1
   ·have Et:jV (A5 sC) l[i].kind=some (Cn (.func 69)):=by rw[uy,if_pos k1]
    have i_:iv ⟨v,cl,syms⟩ s l[i]=n9 s l[i]:=Bo k1
    by_cases c1:l[i].sym=0
    ·cases c2:e8 s.vars l[i].lits with
     |false=>
      rw[c2] at hw
      have pk:=hZ fy (by rw[i_,n9,if_neg (by rw[c2];simp)])
      rw[pk] at fF
      rw[fF]
      (refine mn ?_;refine aA ?_;refine Q4 ?_;(with_reducible apply a_.inline (hf:=Tryz.func69));(with_reducible assumption);(iterate 10 exact rfl);intro g_ fp fl;refine Sz ?_;show a_ .held _ _ _ [_,_,_,_,_,_,_,_,_,_,_] _ _;refine P5 ?_;refine zm ?_;refine WG ?_;refine zb ?_;refine zy ?_;refine a_.c_ 44 1 1 rfl rfl rfl rfl ?_;refine zy ?_;refine n7 ?_;intro k_ iE;refine nz ?_;refine AR.fA (i:=11) rfl aI rfl ?_;intro g_ b_ fU;refine zy ?_;refine zA (hw) ?_;refine Q3 ?_;refine AR.iP [12,13,14,15,16,17,18,19,20] aI aI aI aI ?_;intro g_ b_;show a_ .held _ _ _ [_,_,_,_,_,_,_,_,_] _ _;refine DA ?_;refine zm ?_;(iterate 6 refine a_.gE rfl rfl rfl rfl rfl rfl rfl ?_);refine Q3 ?_;intro k_ iE;refine nz ?_;refine AR.fA (i:=21) rfl aI rfl ?_;intro g_ b_ fU;refine CZ ?_;refine AR.iP [22,23] aI aI aI aI ?_;intro g_ b_;show a_ .held _ _ _ [_,_] _ _;refine IK ?_;refine Q3 ?_;intro k_ iE;refine Gc ?_;(with_reducible apply AW.mh 14 9 12 3);(iterate 3 exact rfl);refine CD ?_)
      (apply eY;(exact gm.two (.tmp rfl rfl) (.tmp rfl rfl));(refine qz ?_;refine hO.cons ?_ ?_;refine Le.eU ?_;(first|rfl|simp);exact hO.nil))
     |true=>
      rw[c2] at hw
      have Js:=Hn s.vars s.cl l[i].lits hfs aJ c2
      cases c3:ia s.vars s.cl l[i].lits with
      |false=>
       rw[c3] at Js
       have pk:=hZ fy (by rw[i_,n9,if_neg (by rw[c3];simp)])
       rw[pk] at fF
       rw[fF]
       (refine mn ?_;refine aA ?_;refine Q4 ?_;(with_reducible apply a_.inline (hf:=Tryz.func69));(with_reducible assumption);(iterate 10 exact rfl);intro g_ fp fl;refine zg ?_;(with_reducible apply AW.gb);exact rfl;exact rfl;kernel_rfl;(with_reducible assumption);refine SM ?_;(with_reducible apply a_.BF);(iterate 3 exact rfl);(repeat' first|exact Sub.nil|apply Sub.take|apply Sub.skip);(iterate 3 exact rfl);refine QN ?_;refine oz ?_;refine zQ ?_;(with_reducible apply AW.mh 14 9 12 3);(iterate 3 exact rfl);refine CD ?_)
       (apply eY;(exact gm.two (.tmp rfl rfl) (.tmp rfl rfl));(refine qz ?_;refine hO.cons ?_ ?_;refine Le.eU ?_;(first|rfl|simp);exact hO.nil))
      |true=>
       rw[c3] at Js
       have DR:iv ⟨v,cl,syms⟩ s l[i]=some (xC s l[i].lits):=by rw[i_,n9,if_pos ⟨c1,c2,c3⟩]
       have pk:=rU fy DR
       rw[pk] at fF
       have HI:=EB.sE hL DR
       obtain⟨sv,scl,rf⟩:=s
       simp only[xC] at*
       cases rf with
       |true=>
        (refine mn ?_;refine aA ?_;refine Q4 ?_;(with_reducible apply a_.inline (hf:=Tryz.func69));(with_reducible assumption);(iterate 10 exact rfl);intro g_ fp fl;refine zg ?_;(with_reducible apply AW.gb);exact rfl;exact rfl;kernel_rfl;(with_reducible assumption);refine SM ?_;(with_reducible apply a_.BF);(iterate 3 exact rfl);(repeat' first|exact Sub.nil|apply Sub.take|apply Sub.skip);(iterate 3 exact rfl);refine QN ?_;refine nY ?_;refine iK ?_;refine a_.fN rfl rfl rfl ?_;refine uS ?_;(with_reducible apply a_.inline (hf:=Tryz.func95));(with_reducible assumption);(iterate 10 exact rfl);intro g_ fp fl;refine DT ?_;refine iY ?_;refine tE ?_;(with_reducible apply a_.fD);exact rfl;exact ah;(iterate 9 exact rfl);exact aa;refine Sc ?_)
        exact W7
       |false=>
        (refine mn ?_;refine aA ?_;refine Q4 ?_;(with_reducible apply a_.inline (hf:=Tryz.func69));(with_reducible assumption);(iterate 10 exact rfl);intro g_ fp fl;refine zg ?_;(with_reducible apply AW.gb);exact rfl;exact rfl;kernel_rfl;(with_reducible assumption);refine SM ?_;(with_reducible apply a_.BF);(iterate 3 exact rfl);(repeat' first|exact Sub.nil|apply Sub.take|apply Sub.skip);(iterate 3 exact rfl);refine QN ?_;refine nY ?_;refine iK ?_;refine a_.fN rfl rfl rfl ?_;refine uS ?_;(with_reducible apply a_.inline (hf:=Tryz.func95));(with_reducible assumption);(iterate 10 exact rfl);intro g_ fp fl;refine DT ?_;refine iY ?_;refine tE ?_;(with_reducible apply a_.fD);exact rfl;exact ah;(iterate 9 exact rfl);exact aa;refine RV ?_)
        exact W7
    ·have pk:=hZ fy (by rw[i_,n9,if_neg (fun h=>c1 h.1)])
     rw[pk] at fF
     rw[fF]
     (refine mn ?_;refine aA ?_;refine Q4 ?_;(with_reducible apply a_.inline (hf:=Tryz.func69));(with_reducible assumption);(iterate 10 exact rfl);intro g_ fp fl;refine Sz ?_;show a_ .held _ _ _ [_,_,_,_,_,_,_,_,_,_,_] _ _;refine P5 ?_;refine Ry ?_;refine Q3 ?_;intro k_ iE;refine nz ?_;refine AR.fA (i:=11) rfl aI rfl ?_;intro g_ b_ fU;refine FP ?_;refine Q3 ?_;refine AR.iP [12,13,14,15,16,17,18,19,20] aI aI aI aI ?_;intro g_ b_;show a_ .held _ _ _ [_,_,_,_,_,_,_,_,_] _ _;refine FP ?_;refine zT ?_;refine zm ?_;(iterate 6 refine a_.gE rfl rfl rfl rfl rfl rfl rfl ?_);refine Q3 ?_;intro k_ iE;refine nz ?_;refine AR.fA (i:=21) rfl aI rfl ?_;intro g_ b_ fU;refine CZ ?_;refine AR.iP [22,23] aI aI aI aI ?_;intro g_ b_;show a_ .held _ _ _ [_,_] _ _;refine IK ?_;refine Q3 ?_;intro k_ iE;refine Gc ?_;(with_reducible apply AW.mh 14 9 12 3);(iterate 3 exact rfl);refine CD ?_)
     (apply eY;(exact gm.two (.tmp rfl rfl) (.tmp rfl rfl));(refine qz ?_;refine hO.cons ?_ ?_;refine Le.eU ?_;(first|rfl|simp);exact hO.nil))
   by_cases k2:l[i].kind=2
   ·have Et:jV (A5 sC) l[i].kind=some (Cn (.func 70)):=by rw[uy,if_neg k1,if_pos k2]
    have i_:iv ⟨v,cl,syms⟩ s l[i]=mD s l[i]:=GK k2
    by_cases c1:l[i].sym=0
    ·cases c2:e8 s.vars l[i].lits with
     |false=>
      rw[c2] at hw
      have pk:=hZ fy (by rw[i_,mD,if_neg (by rw[c2];simp)])
      rw[pk] at fF
      rw[fF]
      (refine mn ?_;refine aA ?_;refine Q4 ?_;(with_reducible apply a_.inline (hf:=Tryz.func70));(with_reducible assumption);(iterate 10 exact rfl);intro g_ fp fl;refine zg ?_;(with_reducible apply AW.gb);exact rfl;exact rfl;kernel_rfl;(with_reducible assumption);refine P5 ?_;refine zm ?_;refine Qz ?_;refine oz ?_;refine zQ ?_;(with_reducible apply AW.mh 14 9 12 3);(iterate 3 exact rfl);refine CD ?_)
      (apply eY;(exact gm.two (.tmp rfl rfl) (.tmp rfl rfl));(refine qz ?_;refine hO.cons ?_ ?_;refine Le.eU ?_;(first|rfl|simp);exact hO.nil))
     |true=>
      rw[c2] at hw
      have BP:=nW l[i].lits (by omega)
      (refine mn ?_;refine aA ?_;refine Q4 ?_;(with_reducible apply a_.inline (hf:=Tryz.func70));(with_reducible assumption);(iterate 10 exact rfl);intro g_ fp fl;refine zg ?_;(with_reducible apply AW.gb);exact rfl;exact rfl;kernel_rfl;(with_reducible assumption);refine P5 ?_;refine zm ?_;refine Qz ?_;refine nY ?_;refine iK ?_;refine uS ?_;refine zP (BP) ?_;refine L8 ?_;refine pJ ?_;refine a_.c_ 73 0 0 rfl rfl rfl rfl ?_;refine vm ?_;refine a_.jB rfl rfl rfl ?_;(with_reducible apply a_.inline (hf:=Tryz.func97));(with_reducible assumption);(iterate 10 exact rfl);intro g_ fp fl;refine nz ?_;refine zq ?_;refine kc ?_;refine BR ?_;refine a_.hY rfl rfl rfl rfl ?_;refine zp ?_)
      (refine nz ?_;apply AW.gJ [7,0,1,1029,1028,1027,1026,1025,1024,1005,1015,1014,1013,1012,1009,1008,1004,1000,2073,2072,2071,2070,2069,2068,2015,2014,2012,2013,2056,2055,2054,2008,2009,2002] [7,6,5,3,4,2] (fun j:Nat=>([(8,eU j)]:List (Nat×AV))) (fun j:Nat=>([]:List (Nat×Option Ob))) (fun j:Nat=>j≤s.cl.length∧(s.cl.take j).any (PA l[i].lits)=false) (fun j:Nat=>s.cl.length - j) (0);(conv=>lhs;simp only[Nf.ot,Nf.all,df,reduceAdd,reduceSub]);(all_goals skip))
      ·exact⟨bm _,rfl⟩
      ·exact Q8
      rintro j ⟨hj,BY⟩
      by_cases sc:j<s.cl.length
      ·obtain⟨d1,d2⟩:=hfs.iX _ (cY sc)
       have jg:=nW s.cl[j] (by omega)
       have heq:=vL (canon s.cl[j]) (canon l[i].lits)
       have Cl:=uc (p:=PA l[i].lits) sc
       rw[BY,dS] at Cl
       by_cases he:canon s.cl[j]=canon l[i].lits
       ·rw[decide_eq_true he] at heq
        have MM:PA l[i].lits s.cl[j]=true:=decide_eq_true he
        have DR:iv ⟨v,cl,syms⟩ s l[i]=some ⟨s.vars,s.cl.eraseIdx j,s.ref⟩:=by rw[i_,mD,if_pos ⟨c1,c2,xd sc MM⟩,yR sc BY MM]
        have pk:=rU fy DR
        rw[pk] at fF
        have HI:=EB.sE hL DR
        (refine HH ?_;refine au ?_;(with_reducible apply a_.inline (hf:=Tryz.func98));(with_reducible assumption);(iterate 10 exact rfl);intro g_ fp fl;refine nz ?_;refine zq ?_;refine kc ?_;refine AW.gg [0,2] [] rfl (by assumption) aI aI rfl ?_;show a_ .held _ _ _ [_,_] _ _;refine zm ?_;refine n7 ?_;intro k_ iE;refine nz ?_;refine AR.fA (i:=1) rfl aI rfl ?_;intro g_ b_ fU;refine zP (jg) ?_;refine Q3 ?_;refine AR.fA (i:=3) rfl aI rfl ?_;intro g_ b_ fU;refine zA (heq) ?_;refine Q3 ?_;refine AR.iP [4] aI aI aI aI ?_;intro g_ b_;show a_ .held _ _ _ [_] _ _;refine za ?_;refine Q3 ?_;intro k_ iE;refine Jm ?_;refine ui ?_;refine xj ?_;refine qE ?_;refine qR ?_;refine ui ?_;refine yf ?_;refine zs ?_;refine nY ?_;refine iK ?_;refine VX ?_;refine DP ?_;refine zj ?_;(refine a_.delL j s.cl rfl rfl rfl rfl rfl rfl rfl rfl aJ aJ ?_);(try refine nz ?_);refine W_ ?_;refine GB ?_;refine nz ?_;refine Td ?_;refine sm ?_)
        exact⟨(i+1,_),⟨by show i+1≤l.length;omega,by show n8 (1000+wS (l.take (i+1))) _;rw[B_ fy,← bG];exact HI,by show _=(_,_+(i+1));rw[fF];simp [bG,Nat.add_comm 1 i]⟩,by show l.length - (i+1)<l.length - i;omega,fe rfl (by(refine⟨.gq (by first|with_reducible rfl|(rfl)),?_⟩;refine⟨.gq (by first|with_reducible rfl|(rfl)),?_⟩;refine⟨.iz (by first|with_reducible rfl|(rfl)),?_⟩;(iterate 2 refine aC ?_);refine⟨.iz (by first|with_reducible rfl|(rfl)),?_⟩;exact trivial)) (by(refine⟨.box _ rfl ?_,?_⟩;refine⟨.gq (by first|with_reducible rfl|(rfl)),?_⟩;refine⟨.ff (by first|with_reducible rfl|(rfl)) rfl,?_⟩;refine⟨.gq (by first|with_reducible rfl|(rfl)),?_⟩;refine⟨.iz (by first|with_reducible rfl|(rfl)),?_⟩;refine⟨.ff (by first|with_reducible rfl|(rfl)) rfl,?_⟩;refine⟨.lh (by first|with_reducible rfl|(rfl)),?_⟩;exact trivial;(iterate 2 refine aF ?_);exact trivial)) rfl⟩
       ·rw[decide_eq_false he] at heq
        have MM:PA l[i].lits s.cl[j]=false:=decide_eq_false he
        rw[MM] at Cl
        (refine HH ?_;refine au ?_;(with_reducible apply a_.inline (hf:=Tryz.func98));(with_reducible assumption);(iterate 10 exact rfl);intro g_ fp fl;refine nz ?_;refine zq ?_;refine kc ?_;refine AW.gg [0,2] [] rfl (by assumption) aI aI rfl ?_;show a_ .held _ _ _ [_,_] _ _;refine zm ?_;refine n7 ?_;intro k_ iE;refine nz ?_;refine AR.fA (i:=1) rfl aI rfl ?_;intro g_ b_ fU;refine zP (jg) ?_;refine Q3 ?_;refine AR.fA (i:=3) rfl aI rfl ?_;intro g_ b_ fU;refine zA (heq) ?_;refine Q3 ?_;refine AR.iP [4] aI aI aI aI ?_;intro g_ b_;show a_ .held _ _ _ [_] _ _;refine za ?_;refine Q3 ?_;intro k_ iE;refine Jm ?_;refine ui ?_;refine Ci ?_;refine tP ?_)
        exact Ye
      ·rw[gP (l:=s.cl) aJ] at BY
       have pk:=hZ fy (by rw[i_,mD,if_neg (by rw[BY];simp)])
       rw[pk] at fF
       rw[fF]
       (refine zD ?_;refine ui ?_;refine yf ?_;refine zs ?_;refine oz ?_;refine zQ ?_;(with_reducible apply AW.mh 14 9 12 3);(iterate 3 exact rfl);refine CD ?_)
       (apply eY;(exact gm.two (.tmp rfl rfl) (.tmp rfl rfl));(refine qz ?_;refine hO.cons ?_ ?_;refine Le.eU ?_;(first|rfl|simp);exact hO.nil))
    ·have pk:=hZ fy (by rw[i_,mD,if_neg (fun h=>c1 h.1)])
     rw[pk] at fF
     rw[fF]
     (refine mn ?_;refine aA ?_;refine Q4 ?_;(with_reducible apply a_.inline (hf:=Tryz.func70));(with_reducible assumption);(iterate 10 exact rfl);intro g_ fp fl;refine Sz ?_;show a_ .held _ _ _ [_,_,_,_,_,_,_,_,_,_,_] _ _;refine P5 ?_;refine Ry ?_;refine Q3 ?_;intro k_ iE;refine nz ?_;refine AR.fA (i:=11) rfl aI rfl ?_;intro g_ b_ fU;refine FP ?_;refine Q3 ?_;refine Sq ?_;intro g_ b_;show a_ .held _ _ _ [_,_] _ _;refine FP ?_;refine zT ?_;refine Q3 ?_;intro k_ iE;refine Gc ?_;(with_reducible apply AW.mh 14 9 12 3);(iterate 3 exact rfl);refine CD ?_)
     (apply eY;(exact gm.two (.tmp rfl rfl) (.tmp rfl rfl));(refine qz ?_;refine hO.cons ?_ ?_;refine Le.eU ?_;(first|rfl|simp);exact hO.nil))
   by_cases k3:l[i].kind=3
   ·have Et:jV (A5 sC) l[i].kind=some (Cn (.func 71)):=by rw[uy,if_neg k1,if_neg k2,if_pos k3]
    have i_:iv ⟨v,cl,syms⟩ s l[i]=lE s l[i]:=Ho k3
    have Qt:=pZ s.vars (l[i].lits.drop 1) (by omega)
    have C9:(l[i].lits.drop 1).length=l[i].lits.length - 1:=List.length_drop
    by_cases d1:l[i].sym=0
    ·by_cases d2:2≤l[i].lits.length
     ·have d2':¬(l[i].lits.length:Int)<2:=by omega
      have h0:l[i].lits.getD 0 0=l[i].lits[0]:=by rw[c6,a8 aJ];rfl
      by_cases d3:l[i].lits[0]=s.vars+1
      ·have d3':l[i].lits[(0:Int).toNat]'(by simp;omega)=s.vars+1:=d3
       by_cases d4:l[i].lits[0]≤20000
       ·have d4':l[i].lits[(0:Int).toNat]'(by simp;omega)≤20000:=d4
        cases d5:e8 s.vars (l[i].lits.drop 1) with
        |false=>
         rw[d5] at Qt
         have pk:=hZ fy (by rw[i_,lE,if_neg (by rintro⟨_,_,_,_,h⟩;rw[d5] at h;cases h)])
         rw[pk] at fF
         rw[fF]
         (refine mn ?_;refine aA ?_;refine Q4 ?_;(with_reducible apply a_.inline (hf:=Tryz.func71));(with_reducible assumption);(iterate 10 exact rfl);intro g_ fp fl;refine zg ?_;(with_reducible apply AW.gb);exact rfl;exact rfl;kernel_rfl;(with_reducible assumption);refine IG ?_;refine IB ?_;refine ay ?_;refine uq ?_;refine Ly ?_;refine zm ?_;refine IB ?_;refine ay ?_;refine uq ?_;refine vi ?_;refine zm ?_;refine WG ?_;refine zb ?_;refine IB ?_;refine a_.u_ rfl rfl rfl rfl rfl rfl rfl aJ aJ ?_;refine zy ?_;refine zA (Qt) ?_;refine DA ?_;refine oz ?_;refine zQ ?_;(with_reducible apply AW.mh 14 9 12 3);(iterate 3 exact rfl);refine CD ?_)
         (apply eY;(exact gm.two (.tmp rfl rfl) (.tmp rfl rfl));(refine qz ?_;refine hO.cons ?_ ?_;refine Le.eU ?_;(first|rfl|simp);exact hO.nil))
        |true=>
         rw[d5] at Qt
         have DR:iv ⟨v,cl,syms⟩ s l[i]=some ⟨s.vars+1,s.cl++defs l[i].lits[0] (l[i].lits.drop 1),s.ref⟩:=by rw[i_,lE,if_pos ⟨d1,d2,by rw[h0];exact d3,by rw[h0];exact d4,d5⟩,h0]
         have pk:=rU fy DR
         rw[pk] at fF
         have HI:=EB.sE hL DR
         obtain⟨sv,scl,rf⟩:=s
         simp only at*
         cases rf with
         |true=>
          have ZA:(l[i].lits.drop (1:Int).toNat).length=l[i].lits.length - 1:=C9
          have d5':e8 sv (l[i].lits.drop (1:Int).toNat)=true:=d5
          (refine mn ?_;refine aA ?_;refine Q4 ?_;(with_reducible apply a_.inline (hf:=Tryz.func71));(with_reducible assumption);(iterate 10 exact rfl);intro g_ fp fl;refine zg ?_;(with_reducible apply AW.gb);exact rfl;exact rfl;kernel_rfl;(with_reducible assumption);refine IG ?_;refine IB ?_;refine ay ?_;refine uq ?_;refine Ly ?_;refine zm ?_;refine IB ?_;refine ay ?_;refine uq ?_;refine vi ?_;refine zm ?_;refine TX ?_;refine nz ?_;refine ko ?_;refine uS ?_;refine ay ?_;refine VK ?_)
          (refine nz ?_;apply AW.gJ [66,65,64,63,61,60,59,58,57,56,55,54,15,14,13,12,9,8,4,3,0,1073,1072,1071,1070,1069,1068,1015,1014,1012,1013,1056,1055,1054,1008,1009,1002] [6,5,4,2] (fun j:Nat=>([(67,eU j),(5,.own 7 3 1 ((l[i].lits[0]::((l[i].lits.drop (1:Int).toNat).take j).map fun x=> -x).map encI))]:List (Nat×AV))) (fun j:Nat=>([(3,some (.box [eU (sv+1),.own 2 25 1 ((scl++((l[i].lits.drop (1:Int).toNat).take j).map fun x=>[-l[i].lits[0],x]).map fun c=>[ints c]),eU v,.pv (j3 syms),.own 4 4 1 ((qO.valid ⟨v,cl,syms⟩).map kX),fq true])),(7,some .row)]:List (Nat×Option Ob))) (fun j:Nat=>j≤(l[i].lits.drop (1:Int).toNat).length) (fun j:Nat=>(l[i].lits.drop (1:Int).toNat).length - j) (0);(conv=>lhs;simp only[Nf.ot,Nf.all,df,reduceAdd,reduceSub]);(all_goals skip))
          ·exact bm _
          ·exact Q7
          rintro j hj
          have JB:((l[i].lits.drop (1:Int).toNat).take j).length≤900:=by rw[cO];omega
          by_cases sc:j<(l[i].lits.drop (1:Int).toNat).length
          ·have Ph:=fP d5' _ (cY sc)
           have sM:=fI sc
           have j9:(l[i].lits[0]::((l[i].lits.drop (1:Int).toNat).take (j+1)).map fun x=> -x).map encI=(l[i].lits[0]::((l[i].lits.drop (1:Int).toNat).take j).map fun x=> -x).map encI++ [encI (-(l[i].lits.drop (1:Int).toNat)[j])]:=by rw[sM];simp
           have jF:((scl++((l[i].lits.drop (1:Int).toNat).take (j+1)).map fun x=>[-l[i].lits[0],x]).map fun c=>[ints c])=((scl++((l[i].lits.drop (1:Int).toNat).take j).map fun x=>[-l[i].lits[0],x]).map fun c=>[ints c])++ [[ints [-l[i].lits[0],(l[i].lits.drop (1:Int).toNat)[j]]]]:=by rw[sM];simp
           (refine Cj ?_;refine aA ?_;refine zr ?_;refine rz ?_;refine a_.fN rfl rfl rfl ?_;refine uS ?_;refine ay ?_;refine zr ?_;refine Oz ?_;(with_reducible apply a_.inline (hf:=Tryz.func95));(with_reducible assumption);(iterate 10 exact rfl);intro g_ fp fl;refine DT ?_;refine zb ?_;refine MF ?_;(with_reducible apply a_.fD);exact rfl;exact ah;(iterate 9 exact rfl);exact aa;refine WY ?_;refine iY ?_;refine E3 ?_;refine W9 ?_;refine BG ?_;refine Lh ?_;refine tE ?_;(with_reducible apply a_.fD);exact rfl;exact ah;(iterate 9 exact rfl);exact aa;refine nz ?_;refine vG ?_;refine sm ?_)
           exact Q9
          ·rw[gP (l:=l[i].lits.drop (1:Int).toNat) aJ]
           have kY:(l[i].lits[0]::(l[i].lits.drop (1:Int).toNat).map fun x=> -x).length=(l[i].lits.drop (1:Int).toNat).length+1:=by simp
           (refine Cp ?_;refine iK ?_;refine a_.fN rfl rfl rfl ?_;refine a_.fX rfl rfl rfl ?_;(with_reducible apply a_.inline (hf:=Tryz.func95));(with_reducible assumption);(iterate 10 exact rfl);intro g_ fp fl;refine DT ?_;refine zb ?_;refine MF ?_;(with_reducible apply a_.fD);exact rfl;exact ah;(iterate 9 exact rfl);exact aa;refine Sc ?_)
           exact Q66
         |false=>
          have ZA:(l[i].lits.drop (1:Int).toNat).length=l[i].lits.length - 1:=C9
          have d5':e8 sv (l[i].lits.drop (1:Int).toNat)=true:=d5
          (refine mn ?_;refine aA ?_;refine Q4 ?_;(with_reducible apply a_.inline (hf:=Tryz.func71));(with_reducible assumption);(iterate 10 exact rfl);intro g_ fp fl;refine zg ?_;(with_reducible apply AW.gb);exact rfl;exact rfl;kernel_rfl;(with_reducible assumption);refine IG ?_;refine IB ?_;refine ay ?_;refine uq ?_;refine Ly ?_;refine zm ?_;refine IB ?_;refine ay ?_;refine uq ?_;refine vi ?_;refine zm ?_;refine TX ?_;refine nz ?_;refine ko ?_;refine uS ?_;refine ay ?_;refine VK ?_)
          (refine nz ?_;apply AW.gJ [66,65,64,63,61,60,59,58,57,56,55,54,15,14,13,12,9,8,4,3,0,1073,1072,1071,1070,1069,1068,1015,1014,1012,1013,1056,1055,1054,1008,1009,1002] [6,5,4,2] (fun j:Nat=>([(67,eU j),(5,.own 7 3 1 ((l[i].lits[0]::((l[i].lits.drop (1:Int).toNat).take j).map fun x=> -x).map encI))]:List (Nat×AV))) (fun j:Nat=>([(3,some (.box [eU (sv+1),.own 2 25 1 ((scl++((l[i].lits.drop (1:Int).toNat).take j).map fun x=>[-l[i].lits[0],x]).map fun c=>[ints c]),eU v,.pv (j3 syms),.own 4 4 1 ((qO.valid ⟨v,cl,syms⟩).map kX),fq false])),(7,some .row)]:List (Nat×Option Ob))) (fun j:Nat=>j≤(l[i].lits.drop (1:Int).toNat).length) (fun j:Nat=>(l[i].lits.drop (1:Int).toNat).length - j) (0);(conv=>lhs;simp only[Nf.ot,Nf.all,df,reduceAdd,reduceSub]);(all_goals skip))
          ·exact bm _
          ·exact Q7
          rintro j hj
          have JB:((l[i].lits.drop (1:Int).toNat).take j).length≤900:=by rw[cO];omega
          by_cases sc:j<(l[i].lits.drop (1:Int).toNat).length
          ·have Ph:=fP d5' _ (cY sc)
           have sM:=fI sc
           have j9:(l[i].lits[0]::((l[i].lits.drop (1:Int).toNat).take (j+1)).map fun x=> -x).map encI=(l[i].lits[0]::((l[i].lits.drop (1:Int).toNat).take j).map fun x=> -x).map encI++ [encI (-(l[i].lits.drop (1:Int).toNat)[j])]:=by rw[sM];simp
           have jF:((scl++((l[i].lits.drop (1:Int).toNat).take (j+1)).map fun x=>[-l[i].lits[0],x]).map fun c=>[ints c])=((scl++((l[i].lits.drop (1:Int).toNat).take j).map fun x=>[-l[i].lits[0],x]).map fun c=>[ints c])++ [[ints [-l[i].lits[0],(l[i].lits.drop (1:Int).toNat)[j]]]]:=by rw[sM];simp
           (refine Cj ?_;refine aA ?_;refine zr ?_;refine rz ?_;refine a_.fN rfl rfl rfl ?_;refine uS ?_;refine ay ?_;refine zr ?_;refine Oz ?_;(with_reducible apply a_.inline (hf:=Tryz.func95));(with_reducible assumption);(iterate 10 exact rfl);intro g_ fp fl;refine DT ?_;refine zb ?_;refine MF ?_;(with_reducible apply a_.fD);exact rfl;exact ah;(iterate 9 exact rfl);exact aa;refine WY ?_;refine iY ?_;refine rA ?_;refine a_.len rfl rfl rfl rfl ?_;refine DF ?_;refine a_.kr rfl rfl rfl rfl rfl rfl ?_;refine W9 ?_;refine BG ?_;refine Lh ?_;refine tE ?_;(with_reducible apply a_.fD);exact rfl;exact ah;(iterate 9 exact rfl);exact aa;refine nz ?_;refine vG ?_;refine sm ?_)
           exact Q9
          ·rw[gP (l:=l[i].lits.drop (1:Int).toNat) aJ]
           have kY:(l[i].lits[0]::(l[i].lits.drop (1:Int).toNat).map fun x=> -x).length=(l[i].lits.drop (1:Int).toNat).length+1:=by simp
           (refine Cp ?_;refine iK ?_;refine a_.fN rfl rfl rfl ?_;refine a_.fX rfl rfl rfl ?_;(with_reducible apply a_.inline (hf:=Tryz.func95));(with_reducible assumption);(iterate 10 exact rfl);intro g_ fp fl;refine DT ?_;refine zb ?_;refine MF ?_;(with_reducible apply a_.fD);exact rfl;exact ah;(iterate 9 exact rfl);exact aa;refine RV ?_)
           exact Q66
       ·have d4':¬l[i].lits[(0:Int).toNat]'(by simp;omega)≤20000:=d4
        have pk:=hZ fy (by rw[i_,lE,if_neg (by rintro⟨_,_,_,h,_⟩;rw[h0] at h;exact d4 h)])
        rw[pk] at fF
        rw[fF]
        (refine mn ?_;refine aA ?_;refine Q4 ?_;(with_reducible apply a_.inline (hf:=Tryz.func71));(with_reducible assumption);(iterate 10 exact rfl);intro g_ fp fl;refine On ?_;show a_ .held _ _ _ [_,_,_,_,_,_,_,_,_,_,_,_,_,_,_,_,_,_,_,_,_,_,_,_,_,_,_,_,_,_,_,_,_,_,_,_,_,_] _ _;refine IG ?_;refine IB ?_;refine ay ?_;refine uq ?_;refine Ly ?_;refine zm ?_;refine IB ?_;refine ay ?_;refine uq ?_;refine vi ?_;refine zm ?_;(iterate 8 refine a_.kp rfl rfl rfl rfl rfl rfl (by first|omega|decide) ?_);refine Q3 ?_;intro k_ iE;refine ON ?_;intro g_ b_ fU;refine a_.kp rfl rfl rfl rfl rfl rfl (by first|omega|decide) ?_;refine Q3 ?_;refine M1 ?_;intro g_ b_;show a_ .held _ _ _ [_,_] _ _;refine a_.kp rfl rfl rfl rfl rfl rfl (by first|omega|decide) ?_;refine zT ?_;refine Q3 ?_;intro k_ iE;refine Gc ?_;(with_reducible apply AW.mh 14 9 12 3);(iterate 3 exact rfl);refine CD ?_)
        (apply eY;(exact gm.two (.tmp rfl rfl) (.tmp rfl rfl));(refine qz ?_;refine hO.cons ?_ ?_;refine Le.eU ?_;(first|rfl|simp);exact hO.nil))
      ·have d3':¬l[i].lits[(0:Int).toNat]'(by simp;omega)=s.vars+1:=d3
       have pk:=hZ fy (by rw[i_,lE,if_neg (by rintro⟨_,_,h,_⟩;rw[h0] at h;exact d3 h)])
       rw[pk] at fF
       rw[fF]
       (refine mn ?_;refine aA ?_;refine Q4 ?_;(with_reducible apply a_.inline (hf:=Tryz.func71));(with_reducible assumption);(iterate 10 exact rfl);intro g_ fp fl;refine On ?_;show a_ .held _ _ _ [_,_,_,_,_,_,_,_,_,_,_,_,_,_,_,_,_,_,_,_,_,_,_,_,_,_,_,_,_,_,_,_,_,_,_,_,_,_] _ _;refine IG ?_;refine IB ?_;refine ay ?_;refine uq ?_;refine Ly ?_;refine zm ?_;(iterate 5 refine a_.kp rfl rfl rfl rfl rfl rfl (by with_reducible assumption) ?_);refine zT ?_;refine zm ?_;(iterate 8 refine a_.gE rfl rfl rfl rfl rfl rfl rfl ?_);refine Q3 ?_;intro k_ iE;refine ON ?_;intro g_ b_ fU;refine CZ ?_;refine M1 ?_;intro g_ b_;show a_ .held _ _ _ [_,_] _ _;refine IK ?_;refine Q3 ?_;intro k_ iE;refine Gc ?_;(with_reducible apply AW.mh 14 9 12 3);(iterate 3 exact rfl);refine CD ?_)
       (apply eY;(exact gm.two (.tmp rfl rfl) (.tmp rfl rfl));(refine qz ?_;refine hO.cons ?_ ?_;refine Le.eU ?_;(first|rfl|simp);exact hO.nil))
     ·have d2':(l[i].lits.length:Int)<2:=by omega
      have pk:=hZ fy (by rw[i_,lE,if_neg (by rintro⟨_,h,_⟩;exact d2 h)])
      rw[pk] at fF
      rw[fF]
      (refine mn ?_;refine aA ?_;refine Q4 ?_;(with_reducible apply a_.inline (hf:=Tryz.func71));(with_reducible assumption);(iterate 10 exact rfl);intro g_ fp fl;refine On ?_;show a_ .held _ _ _ [_,_,_,_,_,_,_,_,_,_,_,_,_,_,_,_,_,_,_,_,_,_,_,_,_,_,_,_,_,_,_,_,_,_,_,_,_,_] _ _;refine IG ?_;(iterate 11 refine a_.kp rfl rfl rfl rfl rfl rfl (by with_reducible assumption) ?_);refine zT ?_;refine zm ?_;(iterate 5 refine a_.gE rfl rfl rfl rfl rfl rfl rfl ?_);refine xy ?_;(iterate 8 refine a_.gE rfl rfl rfl rfl rfl rfl rfl ?_);refine Q3 ?_;intro k_ iE;refine ON ?_;intro g_ b_ fU;refine CZ ?_;refine M1 ?_;intro g_ b_;show a_ .held _ _ _ [_,_] _ _;refine IK ?_;refine Q3 ?_;intro k_ iE;refine Gc ?_;(with_reducible apply AW.mh 14 9 12 3);(iterate 3 exact rfl);refine CD ?_)
      (apply eY;(exact gm.two (.tmp rfl rfl) (.tmp rfl rfl));(refine qz ?_;refine hO.cons ?_ ?_;refine Le.eU ?_;(first|rfl|simp);exact hO.nil))
    ·have pk:=hZ fy (by rw[i_,lE,if_neg (fun h=>d1 h.1)])
     rw[pk] at fF
     rw[fF]
     (refine mn ?_;refine aA ?_;refine Q4 ?_;(with_reducible apply a_.inline (hf:=Tryz.func71));(with_reducible assumption);(iterate 10 exact rfl);intro g_ fp fl;refine On ?_;show a_ .held _ _ _ [_,_,_,_,_,_,_,_,_,_,_,_,_,_,_,_,_,_,_,_,_,_,_,_,_,_,_,_,_,_,_,_,_,_,_,_,_,_] _ _;refine P5 ?_;refine zm ?_;refine OE ?_;refine zm ?_;(iterate 11 refine a_.gE rfl rfl rfl rfl rfl rfl rfl ?_);refine xy ?_;(iterate 5 refine a_.gE rfl rfl rfl rfl rfl rfl rfl ?_);refine xy ?_;(iterate 8 refine a_.gE rfl rfl rfl rfl rfl rfl rfl ?_);refine Q3 ?_;intro k_ iE;refine ON ?_;intro g_ b_ fU;refine CZ ?_;refine M1 ?_;intro g_ b_;show a_ .held _ _ _ [_,_] _ _;refine IK ?_;refine Q3 ?_;intro k_ iE;refine Gc ?_;(with_reducible apply AW.mh 14 9 12 3);(iterate 3 exact rfl);refine CD ?_)
     (apply eY;(exact gm.two (.tmp rfl rfl) (.tmp rfl rfl));(refine qz ?_;refine hO.cons ?_ ?_;refine Le.eU ?_;(first|rfl|simp);exact hO.nil))
   by_cases k4:l[i].kind=4
   ·have Et:jV (A5 sC) l[i].kind=some (Cn (.func 72)):=by rw[uy,if_neg k1,if_neg k2,if_neg k3,if_pos k4]
    have i_:iv ⟨v,cl,syms⟩ s l[i]=qg ⟨v,cl,syms⟩ s l[i]:=GU k4
    cases c2:e8 s.vars l[i].lits with
    |false=>
     rw[c2] at hw
     have pk:=hZ fy (by rw[i_,qg,if_neg (by rw[c2];simp)])
     rw[pk] at fF
     rw[fF]
     (refine mn ?_;refine aA ?_;refine Q4 ?_;(with_reducible apply a_.inline (hf:=Tryz.func72));(with_reducible assumption);(iterate 10 exact rfl);intro g_ fp fl;refine Kx ?_;(with_reducible apply AW.gb);exact rfl;exact rfl;kernel_rfl;(with_reducible assumption);refine zb ?_;refine Wj ?_;refine zm ?_;refine E3 ?_;refine zm ?_;(iterate 8 refine a_.gE rfl rfl rfl rfl rfl rfl rfl ?_);refine xy ?_;(iterate 9 refine a_.gE rfl rfl rfl rfl rfl rfl rfl ?_);refine A9 ?_;refine iK ?_;refine zQ ?_;(with_reducible apply AW.mh 14 9 12 3);(iterate 3 exact rfl);refine CD ?_)
     (apply eY;(exact gm.two (.tmp rfl rfl) (.tmp rfl rfl));(refine qz ?_;refine hO.cons ?_ ?_;refine Le.eU ?_;(first|rfl|simp);exact hO.nil))
    |true=>
     rw[c2] at hw
     by_cases m1:0≤l[i].sym
     ·by_cases m2:l[i].sym<syms.length
      ·have mt:l[i].sym.toNat<syms.length:=by omega
       have PC:syms.getD l[i].sym.toNat []=syms[l[i].sym.toNat]:=by rw[c6,a8 mt];rfl
       have Xb:(qO.valid ⟨v,cl,syms⟩)[l[i].sym.toNat]'(by rw[Rg];exact mt)=jm v cl syms[l[i].sym.toNat]:=J1 ⟨v,cl,syms⟩ mt
       cases m3:jm v cl syms[l[i].sym.toNat] with
       |false=>
        rw[m3] at Xb
        have pk:=hZ fy (e:=⟨v,cl,syms⟩) (s:=s) (by rw[i_,qg,if_neg (by rw[PC,m3];simp)])
        rw[pk] at fF
        rw[fF]
        have Jq:(!(qO.valid ⟨v,cl,syms⟩)[l[i].sym.toNat]'(by rw[Rg];exact mt))=true:=by rw[Xb];rfl
        (refine mn ?_;refine aA ?_;refine Q4 ?_;(with_reducible apply a_.inline (hf:=Tryz.func72));(with_reducible assumption);(iterate 10 exact rfl);intro g_ fp fl;refine Kx ?_;(with_reducible apply AW.gb);exact rfl;exact rfl;kernel_rfl;(with_reducible assumption);refine Un ?_;refine au ?_;refine DA ?_;refine zd ?_;refine AW.EZ rfl rfl (by assumption) ?_;refine iK ?_;refine zQ ?_;(with_reducible apply AW.mh 14 9 12 3);(iterate 3 exact rfl);refine CD ?_)
        (apply eY;(exact gm.two (.tmp rfl rfl) (.tmp rfl rfl));(refine qz ?_;refine hO.cons ?_ ?_;refine Le.eU ?_;(first|rfl|simp);exact hO.nil))
       |true=>
        rw[m3] at Xb
        have Jq:(!(qO.valid ⟨v,cl,syms⟩)[l[i].sym.toNat]'(by rw[Rg];exact mt))=false:=by rw[Xb];rfl
        have BP:=nW l[i].lits (by omega)
        (refine mn ?_;refine aA ?_;refine Q4 ?_;(with_reducible apply a_.inline (hf:=Tryz.func72));(with_reducible assumption);(iterate 10 exact rfl);intro g_ fp fl;refine Kx ?_;(with_reducible apply AW.gb);exact rfl;exact rfl;kernel_rfl;(with_reducible assumption);refine Un ?_;refine au ?_;refine DA ?_;refine zd ?_;refine AW.BC rfl rfl (by assumption) ?_;refine vH ?_;refine zo ?_;refine AW.gg [0,1,2,3,4,5,6,7,8,9] [13] rfl (by assumption) aI aI rfl ?_;show a_ .held _ _ _ [_,_,_,_,_,_,_,_,_,_] _ _;refine zb ?_;refine a_.fw rfl rfl rfl ?_;refine a_.c_ 73 2 3 rfl rfl rfl rfl ?_;refine zb ?_;refine a_.c_ 44 2 2 rfl rfl rfl rfl ?_;refine zb ?_;refine ay ?_;refine zr ?_;refine uS ?_;refine Q3 ?_;intro k_ iE;refine nz ?_;apply AR.cut [9,8,7,6,5,4,3,2,1,0,10,11,12];intro kv;apply AR.cut [9,8,7,6,5,4,3,2,1,0,10,12];intro ly;apply AR.cut [9,8,7,6,5,4,3,2,1,0,11,12];intro lu;apply AR.cut [9,8,7,6,5,4,3,2,1,0,10,11];intro lF;(refine AR.pS (i:=10) (j:=11) (m:=12) rfl aI rfl rfl rfl ?_ ?_ ?_<;>intro g_ b_ fU);refine zP (BP) ?_;refine Q3 ?_;(refine AR.gh (i:=11) (j:=12) rfl aI rfl rfl ?_ ?_<;>intro g_ b_ fU);refine th ?_;exact AR.perm aI lF;refine mV ?_;refine mX ?_;exact ss;refine mV ?_;refine Q3 ?_;(refine AR.gh (i:=10) (j:=12) rfl aI rfl rfl ?_ ?_<;>intro g_ b_ fU);refine zP (BP) ?_;refine mX ?_;refine AR.meet lF aI (fun g_=>fe rfl ?_ ?_ rfl);(iterate 79 refine aC ?_);exact trivial;exact Vx;refine th ?_;exact AR.perm aI lu;refine mV ?_;refine Q3 ?_;(refine AR.gh (i:=10) (j:=11) rfl aI rfl rfl ?_ ?_<;>intro g_ b_ fU);refine zP (BP) ?_;refine mX ?_;refine AR.meet ly aI (fun g_=>fe rfl ?_ ?_ rfl);(iterate 79 refine aC ?_);exact trivial;exact Vx;refine mV ?_;refine mX ?_;refine AR.sw 8 9 (by assumption) aI aI ?_;refine H7 ?_;refine AR.meet lu aI (fun g_=>fe rfl ?_ ?_ rfl);(iterate 79 refine aC ?_);exact trivial;refine xh ?_;exact Vx;refine AR.fA (i:=12) rfl aI rfl ?_;intro g_ b_ fU;refine mV ?_;refine mX ?_;exact pE;refine AR.fA (i:=10) rfl aI rfl ?_;intro g_ b_ fU;refine zP (BP) ?_;refine mX ?_;refine AR.meet kv aI (fun g_=>fe rfl ?_ ?_ rfl);(iterate 80 refine aC ?_);exact trivial;refine xh ?_;exact Vx;refine AR.fA (i:=11) rfl aI rfl ?_;intro g_ b_ fU;refine mV ?_;refine mX ?_;refine AR.sw 8 9 (by assumption) aI aI ?_;refine H7 ?_;refine AR.meet kv aI (fun g_=>fe rfl ?_ ?_ rfl);(iterate 80 refine aC ?_);exact trivial;refine xh ?_;exact Vx;refine wE ?_;intro g_ b_ eT;refine tq ?_;refine wH ?_;intro g_ b_ eT;refine tq ?_;refine Cq ?_;refine zo ?_;refine zq ?_;refine zb ?_;refine W_ ?_;refine zb ?_;refine a_.s_ rfl rfl rfl rfl rfl rfl rfl ?_;(with_reducible apply a_.inline (hf:=Tryz.func74));(with_reducible assumption);(iterate 10 exact rfl);intro g_ fp fl;refine qL ?_;refine a_.fX rfl rfl rfl ?_;refine a_.iu rfl rfl rfl ?_;(with_reducible apply a_.inline (hf:=Tryz.func97));(with_reducible assumption);(iterate 10 exact rfl);intro g_ fp fl;refine nz ?_;refine zq ?_;refine kc ?_;refine BR ?_;refine a_.hY rfl rfl rfl rfl ?_;refine zp ?_)
        obtain⟨y1,y2⟩:=oI m3
        have YX:=uV hf.hv y2
        have hsyl:=Ld.2 _ (cY mt)
        (refine nz ?_;apply AW.gJ [7,0,1,1006,1005,1004,1000,1001,2058,2057,2056,2055,2054,2053,2006,2005,2015,2014,2013,2012,2009,2008,2004,2003,2002,3073,3072,3071,3070,3069,3068,3015,3014,3012,3013,3056,3055,3054,3008,3009,3002] [9,8,7,6,5,3,4,2] (fun j:Nat=>([(8,eU j)]:List (Nat×AV))) (fun j:Nat=>([]:List (Nat×Option Ob))) (fun j:Nat=>j≤s.cl.length∧(s.cl.take j).any (mr v syms[l[i].sym.toNat] l[i].lits)=false) (fun j:Nat=>s.cl.length - j) (0);(conv=>lhs;simp only[Nf.ot,Nf.all,df,reduceAdd,reduceSub]);(all_goals skip))
        ·exact⟨bm _,rfl⟩
        ·exact Q8
        rintro j ⟨hj,BY⟩
        by_cases sc:j<s.cl.length
        ·obtain⟨q1,q2⟩:=EB.iX _ (cY sc)
         have hwv:=pZ v s.cl[j] (by omega)
         have Cl:=uc (p:=mr v syms[l[i].sym.toNat] l[i].lits) sc
         rw[BY,dS] at Cl
         cases e1:e8 v s.cl[j] with
         |false=>
          rw[e1] at hwv
          have MM:mr v syms[l[i].sym.toNat] l[i].lits s.cl[j]=false:=by unfold mr;rw[e1];rfl
          rw[MM] at Cl
          (refine HH ?_;refine au ?_;(with_reducible apply a_.inline (hf:=Tryz.func101));(with_reducible assumption);(iterate 10 exact rfl);intro g_ fp fl;refine nz ?_;refine NL ?_;show a_ .held _ _ _ [_,_,_,_,_] _ _;refine zb ?_;refine OA ?_;intro k_ iE;refine Np ?_;intro g_ b_ fU;refine O3 ?_;intro g_ b_;show a_ .held _ _ _ [_,_,_,_] _ _;refine zm ?_;(iterate 3 refine a_.gE rfl rfl rfl rfl rfl rfl rfl ?_);refine Q3 ?_;intro k_ iE;refine Oi ?_;intro g_ b_ fU;refine CZ ?_;refine AR.fA (i:=10) rfl aI rfl ?_;intro g_ b_ fU;refine CZ ?_;refine AR.fA (i:=12) rfl aI rfl ?_;intro g_ b_ fU;refine CZ ?_;refine AR.iP [13,14] aI aI aI aI ?_;intro g_ b_;show a_ .held _ _ _ [_,_] _ _;refine a_.kr rfl rfl rfl rfl rfl rfl ?_;refine za ?_;refine Q3 ?_;intro k_ iE;refine Jm ?_;refine ui ?_;refine Ci ?_;refine tP ?_)
          exact Ye
         |true=>
          rw[e1] at hwv
          have Js:=D5 syms[l[i].sym.toNat] s.cl[j] YX aJ aJ (by rw[y1];exact e1)
          have vT:=D_ syms[l[i].sym.toNat] s.cl[j]
          have hni:=nW (nK syms[l[i].sym.toNat] s.cl[j]) (by omega)
          have heq:=vL (canon (nK syms[l[i].sym.toNat] s.cl[j])) (canon l[i].lits)
          by_cases he:canon (nK syms[l[i].sym.toNat] s.cl[j])=canon l[i].lits
          ·rw[decide_eq_true he] at heq
           have MM:mr v syms[l[i].sym.toNat] l[i].lits s.cl[j]=true:=by unfold mr;rw[e1,decide_eq_true he];rfl
           have DR:iv ⟨v,cl,syms⟩ s l[i]=some (xC s l[i].lits):=by rw[i_,qg,if_pos ⟨c2,⟨m1,m2⟩,by rw[PC];exact m3,by rw[PC];exact xd sc MM⟩]
           have pk:=rU fy DR
           rw[pk] at fF
           have HI:=EB.sE hL DR
           obtain⟨sv,scl,rf⟩:=s
           simp only[xC] at*
           have hlj':j<scl.length:=sc
           cases rf with
           |true=>
            (refine HH ?_;refine au ?_;(with_reducible apply a_.inline (hf:=Tryz.func101));(with_reducible assumption);(iterate 10 exact rfl);intro g_ fp fl;refine nz ?_;refine NL ?_;show a_ .held _ _ _ [_,_,_,_,_] _ _;refine zb ?_;refine OA ?_;intro k_ iE;refine Np ?_;intro g_ b_ fU;refine O3 ?_;intro g_ b_;show a_ .held _ _ _ [_,_,_,_] _ _;refine zm ?_;refine zl ?_;refine zb ?_;refine rA ?_;refine n7 ?_;intro k_ iE;refine Oi ?_;intro g_ b_ fU;refine Ti ?_;intro g_ b_ fU;refine S4 ?_;intro g_ b_ fU;refine Tl ?_;intro g_ b_;show a_ .held _ _ _ [_,_] _ _;refine a_.jL rfl rfl rfl rfl rfl rfl ?_;refine za ?_;refine Q3 ?_;intro k_ iE;refine Jm ?_;refine Jg ?_;refine nY ?_;refine iK ?_;refine zb ?_;refine uS ?_;(with_reducible apply a_.inline (hf:=Tryz.func95));(with_reducible assumption);(iterate 10 exact rfl);intro g_ fp fl;refine DT ?_;refine iY ?_;refine tE ?_;(with_reducible apply a_.fD);exact rfl;exact ah;(iterate 9 exact rfl);exact aa;refine Sc ?_)
            exact W7
           |false=>
            (refine HH ?_;refine au ?_;(with_reducible apply a_.inline (hf:=Tryz.func101));(with_reducible assumption);(iterate 10 exact rfl);intro g_ fp fl;refine nz ?_;refine NL ?_;show a_ .held _ _ _ [_,_,_,_,_] _ _;refine zb ?_;refine OA ?_;intro k_ iE;refine Np ?_;intro g_ b_ fU;refine O3 ?_;intro g_ b_;show a_ .held _ _ _ [_,_,_,_] _ _;refine zm ?_;refine zl ?_;refine zb ?_;refine rA ?_;refine n7 ?_;intro k_ iE;refine Oi ?_;intro g_ b_ fU;refine Ti ?_;intro g_ b_ fU;refine S4 ?_;intro g_ b_ fU;refine Tl ?_;intro g_ b_;show a_ .held _ _ _ [_,_] _ _;refine a_.jL rfl rfl rfl rfl rfl rfl ?_;refine za ?_;refine Q3 ?_;intro k_ iE;refine Jm ?_;refine Jg ?_;refine nY ?_;refine iK ?_;refine zb ?_;refine uS ?_;(with_reducible apply a_.inline (hf:=Tryz.func95));(with_reducible assumption);(iterate 10 exact rfl);intro g_ fp fl;refine DT ?_;refine iY ?_;refine tE ?_;(with_reducible apply a_.fD);exact rfl;exact ah;(iterate 9 exact rfl);exact aa;refine RV ?_)
            exact W7
          ·rw[decide_eq_false he] at heq
           have MM:mr v syms[l[i].sym.toNat] l[i].lits s.cl[j]=false:=by unfold mr;rw[e1,decide_eq_false he];rfl
           rw[MM] at Cl
           (refine HH ?_;refine au ?_;(with_reducible apply a_.inline (hf:=Tryz.func101));(with_reducible assumption);(iterate 10 exact rfl);intro g_ fp fl;refine nz ?_;refine NL ?_;show a_ .held _ _ _ [_,_,_,_,_] _ _;refine zb ?_;refine OA ?_;intro k_ iE;refine Np ?_;intro g_ b_ fU;refine O3 ?_;intro g_ b_;show a_ .held _ _ _ [_,_,_,_] _ _;refine zm ?_;refine zl ?_;refine zb ?_;refine rA ?_;refine n7 ?_;intro k_ iE;refine Oi ?_;intro g_ b_ fU;refine Ti ?_;intro g_ b_ fU;refine S4 ?_;intro g_ b_ fU;refine Tl ?_;intro g_ b_;show a_ .held _ _ _ [_,_] _ _;refine a_.jL rfl rfl rfl rfl rfl rfl ?_;refine za ?_;refine Q3 ?_;intro k_ iE;refine Jm ?_;refine ui ?_;refine Ci ?_;refine tP ?_)
           exact Ye
        ·rw[gP (l:=s.cl) aJ] at BY
         have pk:=hZ fy (by rw[i_,qg,if_neg (by rw[PC,BY];simp)])
         rw[pk] at fF
         rw[fF]
         (refine zD ?_;refine IT ?_;refine oz ?_;refine zQ ?_;(with_reducible apply AW.mh 14 9 12 3);(iterate 3 exact rfl);refine CD ?_)
         (apply eY;(exact gm.two (.tmp rfl rfl) (.tmp rfl rfl));(refine qz ?_;refine hO.cons ?_ ?_;refine Le.eU ?_;(first|rfl|simp);exact hO.nil))
      ·have pk:=hZ fy (by rw[i_,qg,if_neg (by rintro⟨_,⟨_,h⟩,_⟩;exact m2 h)])
       rw[pk] at fF
       rw[fF]
       (refine mn ?_;refine aA ?_;refine Q4 ?_;(with_reducible apply a_.inline (hf:=Tryz.func72));(with_reducible assumption);(iterate 10 exact rfl);intro g_ fp fl;refine Kx ?_;(with_reducible apply AW.gb);exact rfl;exact rfl;kernel_rfl;(with_reducible assumption);refine Q90 ?_;(iterate 9 refine a_.kp rfl rfl rfl rfl rfl rfl (by first|omega|decide) ?_);refine zT ?_;refine oz ?_;refine zQ ?_;(with_reducible apply AW.mh 14 9 12 3);(iterate 3 exact rfl);refine CD ?_)
       (apply eY;(exact gm.two (.tmp rfl rfl) (.tmp rfl rfl));(refine qz ?_;refine hO.cons ?_ ?_;refine Le.eU ?_;(first|rfl|simp);exact hO.nil))
     ·have pk:=hZ fy (by rw[i_,qg,if_neg (by rintro⟨_,⟨h,_⟩,_⟩;exact m1 h)])
      rw[pk] at fF
      rw[fF]
      (refine mn ?_;refine aA ?_;refine Q4 ?_;(with_reducible apply a_.inline (hf:=Tryz.func72));(with_reducible assumption);(iterate 10 exact rfl);intro g_ fp fl;refine Kx ?_;(with_reducible apply AW.gb);exact rfl;exact rfl;kernel_rfl;(with_reducible assumption);refine zb ?_;refine Wj ?_;refine zm ?_;refine zl ?_;refine a_.c_ 44 2 2 rfl rfl rfl rfl ?_;refine zl ?_;refine zb ?_;refine zl ?_;refine zs ?_;refine a_.kr rfl rfl rfl rfl rfl rfl ?_;refine zm ?_;(iterate 8 refine a_.kp rfl rfl rfl rfl rfl rfl (by first|omega|decide) ?_);refine zT ?_;refine zm ?_;(iterate 9 refine a_.gE rfl rfl rfl rfl rfl rfl rfl ?_);refine A9 ?_;refine iK ?_;refine zQ ?_;(with_reducible apply AW.mh 14 9 12 3);(iterate 3 exact rfl);refine CD ?_)
      (apply eY;(exact gm.two (.tmp rfl rfl) (.tmp rfl rfl));(refine qz ?_;refine hO.cons ?_ ?_;refine Le.eU ?_;(first|rfl|simp);exact hO.nil))
   have Et:jV (A5 sC) l[i].kind=none:=by rw[uy,if_neg k1,if_neg k2,if_neg k3,if_neg k4]
   have pk:=hZ fy (Hp (e:=⟨v,cl,syms⟩) (s:=s) k1 k2 k3 k4)
   rw[pk] at fF
   rw[fF]
   (refine mn ?_;refine aA ?_;refine a_.l5 rfl rfl rfl rfl ?_;refine nz ?_;refine mV ?_;refine za ?_;refine kV ?_;refine ko ?_;refine zm ?_;refine a_.c_ 44 0 0 rfl rfl rfl rfl ?_;refine zb ?_;refine a_.Fb rfl rfl rfl rfl rfl rfl rfl rfl (by with_reducible assumption) ?_;refine Gg ?_;refine uf ?_;refine j6 ?_;refine IJ ?_;(iterate 5 refine a_.gE rfl rfl rfl rfl rfl rfl rfl ?_);refine A9 ?_;(with_reducible apply AW.mh 14 9 12 3);(iterate 3 exact rfl);refine CD ?_)
   (apply eY;(exact gm.two (.tmp rfl rfl) (.tmp rfl rfl));(refine qz ?_;refine hO.cons ?_ ?_;refine Le.eU ?_;(first|rfl|simp);exact hO.nil))
  ·rw[List.drop_eq_nil_of_le aJ,yo] at fF
   have hie:i=l.length:=by omega
   have hR1:R.1.ref=s.ref:=by rw[fF]
   have hR2:R.2=l.length:=by rw[fF,hie];simp
   rw[hR1,hR2]
   (refine Cp ?_;(with_reducible apply AW.mh 16 9 2 3);(iterate 3 exact rfl);(try refine nz ?_);refine zq ?_;refine a_.vz rfl rfl rfl ?_;refine zm ?_;refine zn ?_;refine a_.mR rfl rfl rfl ?_;refine ku ?_)
   (apply eY;(exact gm.two (.tmp rfl rfl) (.tmp rfl rfl));(refine qz ?_;refine hO.cons ?_ ?_;refine Le.eU ?_;(rfl);exact hO.nil))
end Go.Ab
