/- Chapter 23: the checker's run. -/
import Derived.Test.YtigjjjpcjnifhaaGreatDoorAvC2
import Derived.Test.YtigjjjpcjnifhaaGreatDoorAbZ
import Derived.Test.YtigjjjpcjnifhaaGreatDoorAbL3
import Derived.Test.YtigjjjpcjnifhaaGreatDoorAvU5
set_option linter.unusedSimpArgs false
set_option linter.unusedVariables false
open Nat renaming reduceBEq→di,zero_le→bm,add_assoc→bG
open Bool renaming false_or→cK
open List renaming findIdx_cons→eP,getElem_mem→cZ,map_append→cV,getD_eq_getElem?_getD→c8,getElem?_eq_getElem→a8,length_take→dI
namespace Go.Ab
open Go Go.Proofs
open Nat (reduceAdd reduceSub)
set_option maxRecDepth 20000
set_option maxHeartbeats 8000000
attribute [local irreducible] AW a_ gb fq AR fz fk fJ fX canon iV j3 nP pf mr eX iM gR
theorem DF (l:List (List Int)) (hl:l.length≤1000000):J8 Tryz.prog 64 [.pv (jj l)] 29 1 (l.map fun c=>[ints c]):=by
 refine J8.enter (n:=8) Tryz.func64 rfl rfl rfl rfl rfl (by decide) fun g fD fB=>?_;(try refine nz ?_)
 by_cases h0:l=[]
 ·subst h0
  have e0:([]:List (List Int)).length=0:=rfl
  (refine w6 ?_;(focus ((with_reducible apply a_.ri);(iterate 6 exact rfl);all_goals intro qq));refine wL ?_;(all_goals skip);rotate_left;refine E6 ?_;(with_reducible apply a_.fI);exact rfl;exact ah;(iterate 9 exact rfl);exact aa;refine nz ?_;refine tH ?_;(all_goals skip);rotate_left)
  all_goals ((first|(refine iU (gk.one (.tmp rfl rfl)) ?_)|(refine iU (gk.one (.cell1 rfl rfl rfl rfl)) ?_)|(refine mI (gk.one (.tmp rfl rfl)) ?_));(first|rfl|simp))
 ·have e0:0<l.length:=List.length_pos_iff.2 h0
  have e1:¬(l.map fun c=>[ints c])=[]:=by simpa using h0
  clear h0
  (refine w6 ?_;(focus ((with_reducible apply a_.ri);(iterate 6 exact rfl);all_goals intro qq));refine wL ?_;(all_goals skip);rotate_left;refine E6 ?_;(with_reducible apply a_.fI);exact rfl;exact ah;(iterate 9 exact rfl);exact aa;refine nz ?_;refine tH ?_;(all_goals skip);rotate_left)
  ·exact absurd qq e1
  ·((first|(refine iU (gk.one (.tmp rfl rfl)) ?_)|(refine iU (gk.one (.cell1 rfl rfl rfl rfl)) ?_)|(refine mI (gk.one (.tmp rfl rfl)) ?_));(first|rfl|simp))
theorem KL (cl:List (List Int)) (hl:cl.length≤1000000):Fn Tryz.prog 65 [.pv (jj cl),.jk (.func 66) [] []] (fh (cl.any fun c=>decide ((c.length:Int)=0))):=by
 refine Fn.enter (n:=9) Tryz.func65 rfl rfl rfl rfl rfl (by decide) fun g fD fB=>?_;(try refine nz ?_)
 (refine zq ?_;refine pB ?_;refine zm ?_;refine a_.j7 rfl rfl rfl ?_;(with_reducible apply a_.inline (hf:=Tryz.func86));(with_reducible assumption);(iterate 10 exact rfl);intro g_ fD fB;refine uw ?_;refine FY ?_)
 (refine nz ?_;apply AW.gN [7,0,1,1006,1005,1004,1000,1001] [] (fun k:Nat=>([(8,eV k)]:List (Nat×AV))) (fun k:Nat=>([]:List (Nat×Option Ob))) (fun k:Nat=>k≤cl.length∧(cl.take k).any (fun c=>decide ((c.length:Int)=0))=false) (fun k:Nat=>cl.length - k) (0);(conv=>lhs;simp only[Nf.nN,Nf.all,di,reduceAdd,reduceSub]);(all_goals skip))
 ·exact⟨bm _,rfl⟩
 ·exact fp rfl (by(refine aC ?_;(iterate 8 refine aC ?_);exact trivial)) (by(exact trivial)) rfl
 rintro k ⟨hk,z6⟩
 by_cases fm:k<cl.length
 ·have Aq:=sB (p:=fun c:List Int=>decide ((c.length:Int)=0)) fm
  rw[z6,cK] at Aq
  by_cases he:(cl[k].length:Int)=0
  ·rw[vb (p:=fun c:List Int=>decide ((c.length:Int)=0)) fm (decide_eq_true he)]
   (refine yM ?_;refine aA ?_;refine zr ?_;(with_reducible apply a_.inline (hf:=Tryz.func66));(with_reducible assumption);(iterate 10 exact rfl);intro g_ fD fB;refine sW ?_;refine zm ?_;refine zn ?_;refine a_.eql rfl rfl rfl rfl rfl ?_;refine kQ ?_;refine w8 ?_;refine na ?_;refine ta ?_;refine kQ ?_;refine wu ?_;refine w8 ?_;refine AL ?_)
   (apply e6;(exact gk.one (.tmp rfl rfl));(refine Le.fh ?_;(first|rfl|exact decide_eq_true aJ)))
  ·rw[decide_eq_false he] at Aq
   (refine yM ?_;refine aA ?_;refine zr ?_;(with_reducible apply a_.inline (hf:=Tryz.func66));(with_reducible assumption);(iterate 10 exact rfl);intro g_ fD fB;refine sW ?_;refine zm ?_;refine zn ?_;refine a_.eql rfl rfl rfl rfl rfl ?_;refine kQ ?_;refine w8 ?_;refine zd ?_;refine zk ?_;refine uB ?_;refine Ba ?_)
   exact⟨k+1,⟨by omega,Aq⟩,by omega,fp rfl (by(refine aC ?_;(iterate 8 refine aC ?_);exact trivial)) (by(exact trivial)) rfl⟩
 ·rw[gC (l:=cl) aJ] at z6
  rw[z6]
  (refine lU ?_;refine lf ?_;refine w8 ?_;refine AL ?_)
  (apply e6;(exact gk.one (.tmp rfl rfl));(refine Le.fh ?_;(first|rfl|exact decide_eq_false aJ)))
theorem xI (e:py):e.valid.length=e.syms.length:=by unfold py.valid;simp
theorem JL (e:py) {k:Nat} (h:k<e.syms.length):e.valid[k]'(by rw[xI];exact h)=iM e.v0 e.cl0 e.syms[k]:=by simp [py.valid]
theorem F_ (e:py):e.valid=e.syms.map (iM e.v0 e.cl0):=rfl
theorem EL {e:py} {s:nM} {t:gB} (h:t.kind=2):hO e s t=lH s t:=by unfold hO;rw[if_neg aJ,if_pos h]
theorem D8 {e:py} {s:nM} {t:gB} (h:t.kind=3):hO e s t=ku s t:=by unfold hO;rw[if_neg aJ,if_neg aJ,if_pos h]
theorem En {e:py} {s:nM} {t:gB} (h:t.kind=4):hO e s t=oT e s t:=by unfold hO;rw[if_neg aJ,if_neg aJ,if_neg aJ,if_pos h]
theorem Er {e:py} {s:nM} {t:gB} (h1:¬t.kind=1) (h2:¬t.kind=2) (h3:¬t.kind=3) (h4:¬t.kind=4):hO e s t=none:=by unfold hO;rw[if_neg h1,if_neg h2,if_neg h3,if_neg h4]
theorem vm (e:py) (s:nM):jg e s []=(s,0):=by unfold jg;rfl
theorem vn {α:Type} {p:α→Bool}:∀{l:List α} {j:Nat} (hj:j<l.length),(l.take j).any p=false→p l[j]=true→l.findIdx p=j
 |[],j,hj,_,_=>by simp at hj
 |x::l,0,hj,_,h=>by simp at h;simp [eP,h]
 |x::l,j+1,hj,h1,h2=>by
  simp only[List.take_succ_cons,List.any_cons,Bool.or_eq_false_iff] at h1
  have:=vn (l:=l) (by simpa using hj) h1.2 (by simpa using h2)
  simp [eP,h1.1,this]
theorem zH {e:py} {s:nM} {t:gB} (h:t.kind=1):hO e s t=mT s t:=by unfold hO;rw[if_pos h]
theorem a_.Uu (j:Nat) (l:List (List Int)) {g:eR} {δ:DS} {ops:Array Oper} {rest:List Oper} {Q:Exit→DS→Prop} {dst:Option Nat} {ty:TypeId} {pos:String} {af:Array Edge} {x y z:Operand} {tys:Array TypeId} {r:Nat} {e:TypeId} {m:Int}
  (hx:δ.ev x=.own r e 1 (l.map fun c=>[ints c])) (hy:δ.ev y=eV (j:Nat)) (hz:δ.ev z=eV m) (hr:δ.ob r=some .row) (ho:ff x=true) (fZ:ff y=true) (oA:ff z=true) (hd:fO δ.n dst=true) (hm:m=(j:Int)+1) (hi:j<l.length)
  (hK:a_ .plain Tryz.prog g ops rest Q ((δ.gG (AV.kill r)).eS dst (.own r e 1 ((l.eraseIdx j).map fun c=>[ints c])))):
  a_ .plain Tryz.prog g ops (⟨dst,.call {callee:=.value (.func 88),args:= #[x,y,z],argTypes:=tys},ty,pos,af,none⟩::rest) Q δ:=a_.NN Rt hx hy hz hr ho fZ oA hd hm hi hK
theorem AW.lx (id t u i:Nat) {P:Program} {g:eR} {δ:DS} {Q:Exit→DS→Prop} {b:Bool} {l:Array Oper} {p:PV} {c0 c1 c2 c3 c4:AV} {rf:Bool} (h:δ.get t=.ptr i 0) (hu:δ.get u=.pv p) (hb:δ.ob i=some (.box [c0,c1,c2,c3,c4,fh rf]))
  {cc:Code} (hK:AW P g ((Code.region id l b).seq cc) Q {n:=δ.n,env:=[(t,.fV [.any,.any,.any,.any,.any,.lit (.bool rf)]),(u,.pv p)],gm:=[],nx:=δ.nx}):AW P g ((Code.region id l b).seq cc) Q δ:=
 AW.fp (δ':={n:=δ.n,env:=[(t,.fV [.any,.any,.any,.any,.any,.lit (.bool rf)]),(u,.pv p)],gm:=[],nx:=δ.nx}) (Go.Ab.fp rfl ⟨by rw[h];exact .fbox hb rfl (.cons (.any _) (.cons (.any _) (.cons (.any _) (.cons (.any _) (.cons (.any _) (.cons (.pv _) .nil)))))),by rw[hu];exact .eq rfl rfl,trivial⟩ trivial rfl) hK
def qD:List (Int×Go.Fn):=[(1,.func 60),(2,.func 61),(3,.func 62),(4,.func 63)]
theorem rJ (k:Int):jK (yx qD) k=if k=1 then some (Av (.func 60)) else if k=2 then some (Av (.func 61)) else if k=3 then some (Av (.func 62)) else if k=4 then some (Av (.func 63)) else none:=rfl
theorem Lg:some (Ob.mp (jL ([]++ [(1,Av (.func 60))]++ [(2,Av (.func 61))]++ [(3,Av (.func 62))]++ [(4,Av (.func 63))])))=some (Ob.mp (jL (yx qD))):=rfl
theorem nu {v:Int} {cl:List (List Int)} {sy:List Int} (h:iM v cl sy=true):(sy.length:Int)=v∧eX v sy=true:=by
 unfold iM at h
 simp only[Bool.and_eq_true,decide_eq_true_eq] at h
 exact⟨h.1.1.1,h.1.1.2⟩
attribute [local irreducible] yx Jv qD jg hO py.valid
theorem O0 (v:Int) (cl:List (List Int)) (syms:List (List Int)) (l:List gB) (l5:mR 1000 (iE v cl)) (HI:syms.length≤1000∧∀c∈syms,c.length≤1000) (hl:wS l≤900000∧∀t∈l,t.lits.length≤900):
  Fn Tryz.prog 28 [F7 v cl,.pv (jj syms),.pv (steps l)] (.gX [.fV [.any,.any,.any,.any,.any,.lit (.bool (jg ⟨v,cl,syms⟩ (iE v cl) l).1.ref)],eV ((jg ⟨v,cl,syms⟩ (iE v cl) l).2:Nat)]):=by
 have hf:Qm v cl:=l5.f (by omega)
 have Hz:cl.length≤1000:=l5.len
 have H6:0≤v∧v≤20000:=l5.hv
 have hlen:=IY l
 have Jf:=DF cl (by omega)
 have Z8:=KL cl (by omega)
 have VZ:iE v cl=⟨v,cl,cl.any fun c=>decide ((c.length:Int)=0)⟩:=rfl
 refine Fn.enter (n:=83) Tryz.func28 rfl rfl rfl rfl rfl (by decide) fun g fD fB=>?_;(try refine nz ?_)
 (refine zq ?_;refine Ee ?_;refine ur ?_;refine ly ?_;refine a_.makeMap (t:=106) rfl ?_;refine nz ?_;refine LS ?_;refine nz ?_;refine LS ?_;refine nz ?_;refine LS ?_;refine nz ?_;refine LS ?_;refine nz ?_;refine a_.p9 rfl rfl rfl ?_;refine a_.tZ rfl rfl rfl ?_;refine zd ?_;refine zo ?_;refine AW.gv [0,1,2,3,6,7,8] [] rfl (by assumption) aI aI rfl ?_;show a_ .held _ _ _ [_,_,_,_,_,_,_] _ _;refine xB ?_;refine vB ?_;refine xB ?_;refine zm ?_;refine Q4 ?_;intro k_ iL;refine nz ?_;refine AR.fG (i:=4) rfl aI rfl ?_;intro g_ b_ f_;(with_reducible apply a_.M9 (Jf));exact aj;exact rfl;refine rS ?_;refine AR.free 5 aI rfl rfl rfl (fS.build 24 [0,1] rfl rfl rfl rfl rfl rfl rfl rfl) ?_;(try refine nz ?_);refine AR.free 9 aI rfl rfl rfl (fS.build 59 [0,2,3] rfl rfl rfl rfl rfl rfl rfl rfl) ?_;(try refine nz ?_);refine AR.fG (i:=10) rfl aI rfl ?_;intro g_ b_ f_;refine Ee ?_;refine Q4 ?_;refine AR.iw [11] aI aI aI aI ?_;intro g_ b_;show a_ .held _ _ _ [_] _ _;refine a_.oQ rfl rfl rfl ?_;refine Q4 ?_;intro k_ iL;refine nz ?_;refine Wh ?_;refine xy ?_;refine vB ?_;(refine a_.SA Z8 (.cons rfl (.pv _) .nil) rfl rfl (fun h=>by cases h) ?_);(try refine nz ?_);refine Sf ?_;refine zd ?_;refine nf ?_;refine n_ ?_)
 refine AW.fp (δ':={n:=83,env:=[(8,.pv (.mp (Jv qD))),(37,eV 0),(36,eV syms.length),(35,.pv (jj syms)),(9,.ptr 3 0),(3,.ptr 0 0),(2,.pv (steps l))],gm:=[(3,some (.box [eV v,.own 2 29 1 (cl.map fun c=>[ints c]),eV v,.pv (jj syms),.pv (.lit (.slice none 0 0)),fh (cl.any fun c=>decide ((c.length:Int)=0))])),(2,some .row),(0,some (.box [eV v,.pv (jj cl)]))],nx:=4}) (Go.Ab.fp rfl ⟨.fns (l:=qD) Lg rfl,.eq rfl rfl,.eq rfl rfl,.eq rfl rfl,.eq rfl rfl,.eq rfl rfl,.eq rfl rfl,trivial⟩ ⟨.box _ rfl ⟨.eq rfl rfl,.eq rfl rfl,.eq rfl rfl,.eq rfl rfl,.eq rfl rfl,.eq rfl rfl,trivial⟩,.row rfl,.box _ rfl ⟨.eq rfl rfl,.eq rfl rfl,trivial⟩,trivial⟩ rfl) ?_
 (apply AW.gN [8,36,35,9,3,2] [2,0] (fun i:Nat=>([(37,eV i)]:List (Nat×AV))) (fun i:Nat=>([(3,some (.box [eV v,.own 2 29 1 (cl.map fun c=>[ints c]),eV v,.pv (jj syms),.own 4 4 1 (((syms.take i).map (iM v cl)).map oz),fh (cl.any fun c=>decide ((c.length:Int)=0))])),(4,some .row)]:List (Nat×Option Ob))) (fun i:Nat=>i≤syms.length) (fun i:Nat=>syms.length - i) (0);(conv=>lhs;simp only[Nf.nN,Nf.all,di,reduceAdd,reduceSub]);(all_goals skip))
 ·exact bm _
 ·exact Q7
 rintro i hi
 by_cases fm:i<syms.length
 ·have ZS:=H2 v cl syms[i] hf (by have:=HI.2 _ (cZ fm);omega)
  have sZ:(syms.take (i+1)).map (iM v cl)=(syms.take i).map (iM v cl)++ [iM v cl syms[i]]:=by rw[fw fm,cV];rfl
  have GP:((syms.take i).map (iM v cl)).length≤1000:=by simp;omega
  (refine EG ?_;refine aA ?_;refine zr ?_;refine kM ?_;refine AW.gv [0,1,2,3,4,5,6] [12] rfl (by assumption) aI aI rfl ?_;show a_ .held _ _ _ [_,_,_,_,_,_,_] _ _;refine Eb ?_;refine a_.c_ 59 3 4 rfl rfl rfl rfl ?_;refine zb ?_;refine rq ?_;refine zm ?_;refine Q4 ?_;intro k_ iL;refine nz ?_;refine AR.fG (i:=7) rfl aI rfl ?_;intro g_ b_ f_;refine zA (ZS) ?_;refine Q4 ?_;refine AR.fG (i:=8) rfl aI rfl ?_;intro g_ b_ f_;refine uZ ?_;refine Mn ?_;intro g_ b_ f_;(with_reducible apply a_.fI);exact rfl;exact ah;(iterate 9 exact rfl);exact aa;refine rS ?_;refine AR.iw [10,11] aI aI aI aI ?_;intro g_ b_;show a_ .held _ _ _ [_,_] _ _;refine a_.fj rfl rfl rfl ?_;refine a_.c_ 59 3 4 rfl rfl rfl rfl ?_;refine Q4 ?_;intro k_ iL;refine nz ?_;refine DZ ?_;intro g_ b_ fe;refine DX ?_;refine FM ?_;refine Gp ?_;refine Ba ?_)
  exact⟨i+1,by omega,by omega,fp rfl (by(refine⟨.fQ (by first|rfl|(rw[sZ,cV];rfl)),?_⟩;refine aC ?_;refine⟨.fQ (by first|rfl|(rw[sZ,cV];rfl)),?_⟩;refine⟨.ib (by first|rfl|(rw[sZ,cV];rfl)),?_⟩;(iterate 2 refine aC ?_);refine⟨.ib (by first|rfl|(rw[sZ,cV];rfl)),?_⟩;exact trivial)) (by(refine⟨.box _ rfl ?_,?_⟩;refine⟨.fQ (by first|rfl|(rw[sZ,cV];rfl)),?_⟩;refine⟨.e9 (by first|rfl|(rw[sZ,cV];rfl)) rfl,?_⟩;refine⟨.fQ (by first|rfl|(rw[sZ,cV];rfl)),?_⟩;refine⟨.ib (by first|rfl|(rw[sZ,cV];rfl)),?_⟩;refine⟨.e9 (by first|rfl|(rw[sZ,cV];rfl)) rfl,?_⟩;refine⟨.kE (by first|rfl|(rw[sZ,cV];rfl)),?_⟩;exact trivial;(iterate 2 refine aF ?_);refine⟨.box _ rfl ?_,?_⟩;refine⟨.fQ (by first|rfl|(rw[sZ,cV];rfl)),?_⟩;refine⟨.ib (by first|rfl|(rw[sZ,cV];rfl)),?_⟩;(iterate 2 exact trivial))) rfl⟩
 ·rw[gC (l:=syms) aJ]
  have Ny:=xI ⟨v,cl,syms⟩
  have XL:=(F_ ⟨v,cl,syms⟩).symm
  simp only at XL Ny
  rw[XL]
  have I2:jg ⟨v,cl,syms⟩ (iE v cl) l=((jg ⟨v,cl,syms⟩ (iE v cl) (l.drop 0)).1,(jg ⟨v,cl,syms⟩ (iE v cl) (l.drop 0)).2+0):=by rw[List.drop_zero];rfl
  generalize jg ⟨v,cl,syms⟩ (iE v cl) l=R at I2 ⊢
  (refine lU ?_;refine qw ?_;refine zm ?_;refine n_ ?_)
  clear hi fm
  (refine nz ?_;apply AW.gN [55,54,8,9,2] [4,2] (fun p:Nat×nM=>([(56,eV p.1)]:List (Nat×AV))) (fun p:Nat×nM=>([(3,some (.box [eV p.2.vars,.own 2 29 1 (p.2.cl.map fun c=>[ints c]),eV v,.pv (jj syms),.own 4 4 1 ((py.valid ⟨v,cl,syms⟩).map oz),fh p.2.ref]))]:List (Nat×Option Ob))) (fun p:Nat×nM=>p.1≤l.length∧mR (1000+wS (l.take p.1)) p.2∧R=((jg ⟨v,cl,syms⟩ p.2 (l.drop p.1)).1,(jg ⟨v,cl,syms⟩ p.2 (l.drop p.1)).2+p.1)) (fun p:Nat×nM=>l.length - p.1) ((0,iE v cl));(conv=>lhs;simp only[Nf.nN,Nf.all,di,reduceAdd,reduceSub]);(all_goals skip))
  ·exact⟨bm _,l5,I2⟩
  ·exact Q7
  rintro⟨i,s⟩ ⟨hi,xj,fu⟩
  simp only at hi xj fu ⊢
  have Zv:=EU l i
  by_cases fm:i<l.length
  ·have hL:=hl.2 _ (cZ fm)
   have PH:=xj.hv
   have Xs:=xj.f (by omega)
   have Mz:=xj.len
   have hw:=oh s.vars l[i].lits (by omega)
   by_cases k1:l[i].kind=1
   ·have Cj:jK (yx qD) l[i].kind=some (Av (.func 60)):=by rw[rJ,if_pos k1]
    have jn:hO ⟨v,cl,syms⟩ s l[i]=mT s l[i]:=zH k1
    by_cases c1:l[i].sym=0
    ·cases c2:eX s.vars l[i].lits with
     |false=>
      rw[c2] at hw
      have nO:=gM fm (by rw[jn,mT,if_neg (by rw[c2];simp)])
      rw[nO] at fu
      rw[fu]
      (refine kA ?_;refine aA ?_;refine Q3 ?_;(with_reducible apply a_.inline (hf:=Tryz.func60));(with_reducible assumption);(iterate 10 exact rfl);intro g_ fD fB;refine Ns ?_;show a_ .held _ _ _ [_,_,_,_,_,_,_,_,_,_,_] _ _;refine Ks ?_;refine zm ?_;refine R0 ?_;refine a_.c_ 65 1 1 rfl rfl rfl rfl ?_;refine zy ?_;refine zb ?_;refine Q4 ?_;intro k_ iL;refine nz ?_;refine AR.fG (i:=11) rfl aI rfl ?_;intro g_ b_ f_;refine zy ?_;refine zA (hw) ?_;refine Q4 ?_;refine AR.iw [12,13,14,15,16,17,18,19,20] aI aI aI aI ?_;intro g_ b_;show a_ .held _ _ _ [_,_,_,_,_,_,_,_,_] _ _;refine Cm ?_;refine zm ?_;(iterate 6 refine a_.gg rfl rfl rfl rfl rfl rfl rfl ?_);refine Q4 ?_;intro k_ iL;refine nz ?_;refine AR.fG (i:=21) rfl aI rfl ?_;intro g_ b_ f_;refine AE ?_;refine AR.iw [22,23] aI aI aI aI ?_;intro g_ b_;show a_ .held _ _ _ [_,_] _ _;refine F5 ?_;refine Q4 ?_;intro k_ iL;refine Dm ?_;(with_reducible apply AW.lx 14 9 12 3);(iterate 3 exact rfl);refine Bu ?_)
      (apply e6;(exact gk.two (.tmp rfl rfl) (.tmp rfl rfl));(refine Ak ?_;refine lY.cons ?_ ?_;refine Le.eV ?_;(first|rfl|simp);exact lY.nil))
     |true=>
      rw[c2] at hw
      have GK:=DV s.vars s.cl l[i].lits Xs aJ c2
      cases c3:gR s.vars s.cl l[i].lits with
      |false=>
       rw[c3] at GK
       have nO:=gM fm (by rw[jn,mT,if_neg (by rw[c3];simp)])
       rw[nO] at fu
       rw[fu]
       (refine kA ?_;refine aA ?_;refine Q3 ?_;(with_reducible apply a_.inline (hf:=Tryz.func60));(with_reducible assumption);(iterate 10 exact rfl);intro g_ fD fB;refine J_ ?_;(with_reducible apply AW.fY);exact rfl;exact rfl;kernel_rfl;(with_reducible assumption);refine Pr ?_;(with_reducible apply a_.yJ);(iterate 3 exact rfl);(repeat' first|exact Sub.nil|apply Sub.take|apply Sub.skip);(iterate 3 exact rfl);refine OH ?_;refine th ?_;refine ly ?_;refine J2 ?_;(with_reducible apply AW.lx 14 9 12 3);(iterate 3 exact rfl);refine Bu ?_)
       (apply e6;(exact gk.two (.tmp rfl rfl) (.tmp rfl rfl));(refine Ak ?_;refine lY.cons ?_ ?_;refine Le.eV ?_;(first|rfl|simp);exact lY.nil))
      |true=>
       rw[c3] at GK
       have Ft:hO ⟨v,cl,syms⟩ s l[i]=some (vV s l[i].lits):=by rw[jn,mT,if_pos ⟨c1,c2,c3⟩]
       have nO:=p_ fm Ft
       rw[nO] at fu
       have FH:=xj.step2 hL Ft
       obtain⟨sv,scl,rf⟩:=s
       simp only[vV] at*
       cases rf with
       |true=>
        (refine kA ?_;refine aA ?_;refine Q3 ?_;(with_reducible apply a_.inline (hf:=Tryz.func60));(with_reducible assumption);(iterate 10 exact rfl);intro g_ fD fB;refine J_ ?_;(with_reducible apply AW.fY);exact rfl;exact rfl;kernel_rfl;(with_reducible assumption);refine Pr ?_;(with_reducible apply a_.yJ);(iterate 3 exact rfl);(repeat' first|exact Sub.nil|apply Sub.take|apply Sub.skip);(iterate 3 exact rfl);refine OH ?_;refine se ?_;refine a_.fH rfl rfl rfl ?_;refine rH ?_;(with_reducible apply a_.inline (hf:=Tryz.func84));(with_reducible assumption);(iterate 10 exact rfl);intro g_ fD fB;refine nz ?_;refine G0 ?_;refine zm ?_;refine uZ ?_;(with_reducible apply a_.fI);exact rfl;exact ah;(iterate 9 exact rfl);exact aa;refine Na ?_;refine jf ?_;refine E4 ?_;refine P3 ?_)
        exact Tl
       |false=>
        (refine kA ?_;refine aA ?_;refine Q3 ?_;(with_reducible apply a_.inline (hf:=Tryz.func60));(with_reducible assumption);(iterate 10 exact rfl);intro g_ fD fB;refine J_ ?_;(with_reducible apply AW.fY);exact rfl;exact rfl;kernel_rfl;(with_reducible assumption);refine Pr ?_;(with_reducible apply a_.yJ);(iterate 3 exact rfl);(repeat' first|exact Sub.nil|apply Sub.take|apply Sub.skip);(iterate 3 exact rfl);refine OH ?_;refine se ?_;refine a_.fH rfl rfl rfl ?_;refine rH ?_;(with_reducible apply a_.inline (hf:=Tryz.func84));(with_reducible assumption);(iterate 10 exact rfl);intro g_ fD fB;refine nz ?_;refine G0 ?_;refine zm ?_;refine uZ ?_;(with_reducible apply a_.fI);exact rfl;exact ah;(iterate 9 exact rfl);exact aa;refine Na ?_;refine jf ?_;refine Kv ?_;refine P3 ?_)
        exact Tl
    ·have nO:=gM fm (by rw[jn,mT,if_neg (fun h=>c1 h.1)])
     rw[nO] at fu
     rw[fu]
     (refine kA ?_;refine aA ?_;refine Q3 ?_;(with_reducible apply a_.inline (hf:=Tryz.func60));(with_reducible assumption);(iterate 10 exact rfl);intro g_ fD fB;refine Ns ?_;show a_ .held _ _ _ [_,_,_,_,_,_,_,_,_,_,_] _ _;refine Ks ?_;refine NU ?_;refine Q4 ?_;intro k_ iL;refine nz ?_;refine AR.fG (i:=11) rfl aI rfl ?_;intro g_ b_ f_;refine Ki ?_;refine Q4 ?_;refine AR.iw [12,13,14,15,16,17,18,19,20] aI aI aI aI ?_;intro g_ b_;show a_ .held _ _ _ [_,_,_,_,_,_,_,_,_] _ _;refine Ki ?_;refine zT ?_;refine zm ?_;(iterate 6 refine a_.gg rfl rfl rfl rfl rfl rfl rfl ?_);refine Q4 ?_;intro k_ iL;refine nz ?_;refine AR.fG (i:=21) rfl aI rfl ?_;intro g_ b_ f_;refine AE ?_;refine AR.iw [22,23] aI aI aI aI ?_;intro g_ b_;show a_ .held _ _ _ [_,_] _ _;refine F5 ?_;refine Q4 ?_;intro k_ iL;refine Dm ?_;(with_reducible apply AW.lx 14 9 12 3);(iterate 3 exact rfl);refine Bu ?_)
     (apply e6;(exact gk.two (.tmp rfl rfl) (.tmp rfl rfl));(refine Ak ?_;refine lY.cons ?_ ?_;refine Le.eV ?_;(first|rfl|simp);exact lY.nil))
   by_cases k2:l[i].kind=2
   ·have Cj:jK (yx qD) l[i].kind=some (Av (.func 61)):=by rw[rJ,if_neg k1,if_pos k2]
    have jn:hO ⟨v,cl,syms⟩ s l[i]=lH s l[i]:=EL k2
    by_cases c1:l[i].sym=0
    ·cases c2:eX s.vars l[i].lits with
     |false=>
      rw[c2] at hw
      have nO:=gM fm (by rw[jn,lH,if_neg (by rw[c2];simp)])
      rw[nO] at fu
      rw[fu]
      (refine kA ?_;refine aA ?_;refine Q3 ?_;(with_reducible apply a_.inline (hf:=Tryz.func61));(with_reducible assumption);(iterate 10 exact rfl);intro g_ fD fB;refine J_ ?_;(with_reducible apply AW.fY);exact rfl;exact rfl;kernel_rfl;(with_reducible assumption);refine Ks ?_;refine zm ?_;refine O9 ?_;refine th ?_;refine ly ?_;refine J2 ?_;(with_reducible apply AW.lx 14 9 12 3);(iterate 3 exact rfl);refine Bu ?_)
      (apply e6;(exact gk.two (.tmp rfl rfl) (.tmp rfl rfl));(refine Ak ?_;refine lY.cons ?_ ?_;refine Le.eV ?_;(first|rfl|simp);exact lY.nil))
     |true=>
      rw[c2] at hw
      have zD:=mE l[i].lits (by omega)
      (refine kA ?_;refine aA ?_;refine Q3 ?_;(with_reducible apply a_.inline (hf:=Tryz.func61));(with_reducible assumption);(iterate 10 exact rfl);intro g_ fD fB;refine J_ ?_;(with_reducible apply AW.fY);exact rfl;exact rfl;kernel_rfl;(with_reducible assumption);refine Ks ?_;refine zm ?_;refine O9 ?_;refine se ?_;refine rH ?_;refine zP (zD) ?_;refine uI ?_;refine DX ?_;refine zd ?_;refine zq ?_;refine oB ?_;refine a_.c_ 59 0 0 rfl rfl rfl rfl ?_;refine vB ?_;refine a_.lE rfl rfl rfl ?_;(with_reducible apply a_.inline (hf:=Tryz.func86));(with_reducible assumption);(iterate 10 exact rfl);intro g_ fD fB;refine uw ?_;refine tg ?_;refine H8 ?_;refine zZ ?_)
      (refine nz ?_;apply AW.gN [7,0,1,1029,1028,1027,1026,1025,1024,1005,1015,1014,1013,1012,1009,1008,1004,1000,2073,2072,2071,2070,2069,2068,2015,2014,2012,2013,2056,2055,2054,2008,2009,2002] [7,6,5,3,4,2] (fun j:Nat=>([(8,eV j)]:List (Nat×AV))) (fun j:Nat=>([]:List (Nat×Option Ob))) (fun j:Nat=>j≤s.cl.length∧(s.cl.take j).any (MC l[i].lits)=false) (fun j:Nat=>s.cl.length - j) (0);(conv=>lhs;simp only[Nf.nN,Nf.all,di,reduceAdd,reduceSub]);(all_goals skip))
      ·exact⟨bm _,rfl⟩
      ·exact Q7
      rintro j ⟨hj,z6⟩
      by_cases qz:j<s.cl.length
      ·obtain⟨d1,d2⟩:=Xs.iR _ (cZ qz)
       have jl:=mE s.cl[j] (by omega)
       have heq:=sM (canon s.cl[j]) (canon l[i].lits)
       have Aq:=sB (p:=MC l[i].lits) qz
       rw[z6,cK] at Aq
       by_cases he:canon s.cl[j]=canon l[i].lits
       ·rw[decide_eq_true he] at heq
        have JZ:MC l[i].lits s.cl[j]=true:=decide_eq_true he
        have Ft:hO ⟨v,cl,syms⟩ s l[i]=some ⟨s.vars,s.cl.eraseIdx j,s.ref⟩:=by rw[jn,lH,if_pos ⟨c1,c2,vb qz JZ⟩,vn qz z6 JZ]
        have nO:=p_ fm Ft
        rw[nO] at fu
        have FH:=xj.step2 hL Ft
        (refine FN ?_;refine zm ?_;refine GF ?_;refine au ?_;(with_reducible apply a_.inline (hf:=Tryz.func87));(with_reducible assumption);(iterate 10 exact rfl);intro g_ fD fB;refine uw ?_;refine pz ?_;refine AW.gv [0,2] [] rfl (by assumption) aI aI rfl ?_;show a_ .held _ _ _ [_,_] _ _;refine zm ?_;refine zb ?_;refine Q4 ?_;intro k_ iL;refine nz ?_;refine AR.fG (i:=1) rfl aI rfl ?_;intro g_ b_ f_;refine zP (jl) ?_;refine Q4 ?_;refine AR.fG (i:=3) rfl aI rfl ?_;intro g_ b_ f_;refine zA (heq) ?_;refine Q4 ?_;refine AR.iw [4] aI aI aI aI ?_;intro g_ b_;show a_ .held _ _ _ [_] _ _;refine za ?_;refine Q4 ?_;intro k_ iL;refine Ge ?_;refine FP ?_;refine w8 ?_;refine tg ?_;refine zm ?_;refine zs ?_;refine se ?_;refine Eb ?_;refine a_.c_ 59 0 0 rfl rfl rfl rfl ?_;refine vB ?_;(iterate 2 refine zm ?_);refine zj ?_;(refine a_.Uu j s.cl rfl rfl rfl rfl rfl rfl rfl rfl aJ aJ ?_);(try refine nz ?_);refine Jy ?_;refine a_.c_ 24 1 1 rfl rfl rfl rfl ?_;refine DX ?_;refine zd ?_;refine zq ?_;refine kQ ?_;refine w8 ?_;refine zl ?_;refine a_.not rfl rfl rfl ?_;refine a_.gO rfl rfl rfl rfl rfl rfl ?_;refine rK ?_;refine oI ?_)
        exact⟨(i+1,_),⟨by show i+1≤l.length;omega,by show mR (1000+wS (l.take (i+1))) _;rw[yN fm,← bG];exact FH,by show _=(_,_+(i+1));rw[fu];simp [bG,Nat.add_comm 1 i]⟩,by show l.length - (i+1)<l.length - i;omega,fp rfl (by(refine⟨.fQ (by first|with_reducible rfl|(rfl)),?_⟩;refine⟨.fQ (by first|with_reducible rfl|(rfl)),?_⟩;refine⟨.ib (by first|with_reducible rfl|(rfl)),?_⟩;(iterate 2 refine aC ?_);refine⟨.ib (by first|with_reducible rfl|(rfl)),?_⟩;exact trivial)) (by(refine⟨.box _ rfl ?_,?_⟩;refine⟨.fQ (by first|with_reducible rfl|(rfl)),?_⟩;refine⟨.e9 (by first|with_reducible rfl|(rfl)) rfl,?_⟩;refine⟨.fQ (by first|with_reducible rfl|(rfl)),?_⟩;refine⟨.ib (by first|with_reducible rfl|(rfl)),?_⟩;refine⟨.e9 (by first|with_reducible rfl|(rfl)) rfl,?_⟩;refine⟨.kE (by first|with_reducible rfl|(rfl)),?_⟩;exact trivial;(iterate 2 refine aF ?_);exact trivial)) rfl⟩
       ·rw[decide_eq_false he] at heq
        have JZ:MC l[i].lits s.cl[j]=false:=decide_eq_false he
        rw[JZ] at Aq
        (refine FN ?_;refine zm ?_;refine GF ?_;refine au ?_;(with_reducible apply a_.inline (hf:=Tryz.func87));(with_reducible assumption);(iterate 10 exact rfl);intro g_ fD fB;refine uw ?_;refine pz ?_;refine AW.gv [0,2] [] rfl (by assumption) aI aI rfl ?_;show a_ .held _ _ _ [_,_] _ _;refine zm ?_;refine zb ?_;refine Q4 ?_;intro k_ iL;refine nz ?_;refine AR.fG (i:=1) rfl aI rfl ?_;intro g_ b_ f_;refine zP (jl) ?_;refine Q4 ?_;refine AR.fG (i:=3) rfl aI rfl ?_;intro g_ b_ f_;refine zA (heq) ?_;refine Q4 ?_;refine AR.iw [4] aI aI aI aI ?_;intro g_ b_;show a_ .held _ _ _ [_] _ _;refine za ?_;refine Q4 ?_;intro k_ iL;refine Ge ?_;refine w8 ?_;refine rK ?_;refine Ba ?_)
        exact T3
      ·rw[gC (l:=s.cl) aJ] at z6
       have nO:=gM fm (by rw[jn,lH,if_neg (by rw[z6];simp)])
       rw[nO] at fu
       rw[fu]
       (refine lU ?_;refine lf ?_;refine w8 ?_;refine tg ?_;refine zm ?_;refine zs ?_;refine th ?_;refine ly ?_;refine J2 ?_;(with_reducible apply AW.lx 14 9 12 3);(iterate 3 exact rfl);refine Bu ?_)
       (apply e6;(exact gk.two (.tmp rfl rfl) (.tmp rfl rfl));(refine Ak ?_;refine lY.cons ?_ ?_;refine Le.eV ?_;(first|rfl|simp);exact lY.nil))
    ·have nO:=gM fm (by rw[jn,lH,if_neg (fun h=>c1 h.1)])
     rw[nO] at fu
     rw[fu]
     (refine kA ?_;refine aA ?_;refine Q3 ?_;(with_reducible apply a_.inline (hf:=Tryz.func61));(with_reducible assumption);(iterate 10 exact rfl);intro g_ fD fB;refine Ns ?_;show a_ .held _ _ _ [_,_,_,_,_,_,_,_,_,_,_] _ _;refine Ks ?_;refine NU ?_;refine Q4 ?_;intro k_ iL;refine nz ?_;refine AR.fG (i:=11) rfl aI rfl ?_;intro g_ b_ f_;refine Ki ?_;refine Q4 ?_;refine OZ ?_;intro g_ b_;show a_ .held _ _ _ [_,_] _ _;refine Ki ?_;refine zT ?_;refine Q4 ?_;intro k_ iL;refine Dm ?_;(with_reducible apply AW.lx 14 9 12 3);(iterate 3 exact rfl);refine Bu ?_)
     (apply e6;(exact gk.two (.tmp rfl rfl) (.tmp rfl rfl));(refine Ak ?_;refine lY.cons ?_ ?_;refine Le.eV ?_;(first|rfl|simp);exact lY.nil))
   by_cases k3:l[i].kind=3
   ·have Cj:jK (yx qD) l[i].kind=some (Av (.func 62)):=by rw[rJ,if_neg k1,if_neg k2,if_pos k3]
    have jn:hO ⟨v,cl,syms⟩ s l[i]=ku s l[i]:=D8 k3
    have MD:=oh s.vars (l[i].lits.drop 1) (by omega)
    have Ap:(l[i].lits.drop 1).length=l[i].lits.length - 1:=List.length_drop
    by_cases d1:l[i].sym=0
    ·by_cases d2:2≤l[i].lits.length
     ·have d2':¬(l[i].lits.length:Int)<2:=by omega
      have h0:l[i].lits.getD 0 0=l[i].lits[0]:=by rw[c8,a8 aJ];rfl
      by_cases d3:l[i].lits[0]=s.vars+1
      ·have d3':l[i].lits[(0:Int).toNat]'(by simp;omega)=s.vars+1:=d3
       by_cases d4:l[i].lits[0]≤20000
       ·have d4':l[i].lits[(0:Int).toNat]'(by simp;omega)≤20000:=d4
        cases d5:eX s.vars (l[i].lits.drop 1) with
        |false=>
         rw[d5] at MD
         have nO:=gM fm (by rw[jn,ku,if_neg (by rintro⟨_,_,_,_,h⟩;rw[d5] at h;cases h)])
         rw[nO] at fu
         rw[fu]
         (refine kA ?_;refine aA ?_;refine Q3 ?_;(with_reducible apply a_.inline (hf:=Tryz.func62));(with_reducible assumption);(iterate 10 exact rfl);intro g_ fD fB;refine J_ ?_;(with_reducible apply AW.fY);exact rfl;exact rfl;kernel_rfl;(with_reducible assumption);refine It ?_;refine ay ?_;refine Ib ?_;refine lg ?_;refine J9 ?_;refine ay ?_;refine zy ?_;refine zr ?_;refine Cc ?_;refine zm ?_;refine R0 ?_;refine J9 ?_;refine a_.qk rfl rfl rfl rfl rfl rfl rfl aJ aJ ?_;refine zy ?_;refine zA (MD) ?_;refine Cm ?_;refine th ?_;refine ly ?_;refine J2 ?_;(with_reducible apply AW.lx 14 9 12 3);(iterate 3 exact rfl);refine Bu ?_)
         (apply e6;(exact gk.two (.tmp rfl rfl) (.tmp rfl rfl));(refine Ak ?_;refine lY.cons ?_ ?_;refine Le.eV ?_;(first|rfl|simp);exact lY.nil))
        |true=>
         rw[d5] at MD
         have Ft:hO ⟨v,cl,syms⟩ s l[i]=some ⟨s.vars+1,s.cl++defs l[i].lits[0] (l[i].lits.drop 1),s.ref⟩:=by rw[jn,ku,if_pos ⟨d1,d2,by rw[h0];exact d3,by rw[h0];exact d4,d5⟩,h0]
         have nO:=p_ fm Ft
         rw[nO] at fu
         have FH:=xj.step2 hL Ft
         obtain⟨sv,scl,rf⟩:=s
         simp only at*
         cases rf with
         |true=>
          have U1:(l[i].lits.drop (1:Int).toNat).length=l[i].lits.length - 1:=Ap
          have d5':eX sv (l[i].lits.drop (1:Int).toNat)=true:=d5
          (refine kA ?_;refine aA ?_;refine Q3 ?_;(with_reducible apply a_.inline (hf:=Tryz.func62));(with_reducible assumption);(iterate 10 exact rfl);intro g_ fD fB;refine J_ ?_;(with_reducible apply AW.fY);exact rfl;exact rfl;kernel_rfl;(with_reducible assumption);refine It ?_;refine ay ?_;refine Ib ?_;refine lg ?_;refine J9 ?_;refine ay ?_;refine Ru ?_;refine ay ?_;refine zr ?_;refine uZ ?_;refine D3 ?_;refine qw ?_;refine rH ?_;refine a_.qk rfl rfl rfl rfl rfl rfl rfl aJ aJ ?_;refine n_ ?_)
          (refine nz ?_;apply AW.gN [66,65,64,63,61,60,59,58,57,56,55,54,15,14,13,12,9,8,4,3,0,1073,1072,1071,1070,1069,1068,1015,1014,1012,1013,1056,1055,1054,1008,1009,1002] [6,5,4,2] (fun j:Nat=>([(67,eV j),(5,.own 7 3 1 ((l[i].lits[0]::((l[i].lits.drop (1:Int).toNat).take j).map fun x=> -x).map encI))]:List (Nat×AV))) (fun j:Nat=>([(3,some (.box [eV (sv+1),.own 2 29 1 ((scl++((l[i].lits.drop (1:Int).toNat).take j).map fun x=>[-l[i].lits[0],x]).map fun c=>[ints c]),eV v,.pv (jj syms),.own 4 4 1 ((py.valid ⟨v,cl,syms⟩).map oz),fh true])),(7,some .row)]:List (Nat×Option Ob))) (fun j:Nat=>j≤(l[i].lits.drop (1:Int).toNat).length) (fun j:Nat=>(l[i].lits.drop (1:Int).toNat).length - j) (0);(conv=>lhs;simp only[Nf.nN,Nf.all,di,reduceAdd,reduceSub]);(all_goals skip))
          ·exact bm _
          ·exact Q6
          rintro j hj
          have Fv:((l[i].lits.drop (1:Int).toNat).take j).length≤900:=by rw[dI];omega
          by_cases qz:j<(l[i].lits.drop (1:Int).toNat).length
          ·have Lp:=fE d5' _ (cZ qz)
           have sZ:=fw qz
           have jB:(l[i].lits[0]::((l[i].lits.drop (1:Int).toNat).take (j+1)).map fun x=> -x).map encI=(l[i].lits[0]::((l[i].lits.drop (1:Int).toNat).take j).map fun x=> -x).map encI++ [encI (-(l[i].lits.drop (1:Int).toNat)[j])]:=by rw[sZ];simp
           have je:((scl++((l[i].lits.drop (1:Int).toNat).take (j+1)).map fun x=>[-l[i].lits[0],x]).map fun c=>[ints c])=((scl++((l[i].lits.drop (1:Int).toNat).take j).map fun x=>[-l[i].lits[0],x]).map fun c=>[ints c])++ [[ints [-l[i].lits[0],(l[i].lits.drop (1:Int).toNat)[j]]]]:=by rw[sZ];simp
           (refine EG ?_;refine aA ?_;refine zr ?_;refine pB ?_;refine a_.fH rfl rfl rfl ?_;refine rH ?_;refine ay ?_;refine zr ?_;refine a_.neg rfl rfl rfl aJ ?_;refine zm ?_;refine Lw ?_;(with_reducible apply a_.inline (hf:=Tryz.func84));(with_reducible assumption);(iterate 10 exact rfl);intro g_ fD fB;refine LZ ?_;(with_reducible apply a_.fI);exact rfl;exact ah;(iterate 9 exact rfl);exact aa;refine Na ?_;refine jf ?_;refine E4 ?_;refine Sw ?_;(with_reducible apply a_.fI);exact rfl;exact ah;(iterate 9 exact rfl);exact aa;refine nz ?_;refine yB ?_;refine oI ?_)
           exact Q8
          ·rw[gC (l:=l[i].lits.drop (1:Int).toNat) aJ]
           have ke:(l[i].lits[0]::(l[i].lits.drop (1:Int).toNat).map fun x=> -x).length=(l[i].lits.drop (1:Int).toNat).length+1:=by simp
           (refine lU ?_;refine ly ?_;refine a_.fH rfl rfl rfl ?_;refine a_.fT rfl rfl rfl ?_;(with_reducible apply a_.inline (hf:=Tryz.func84));(with_reducible assumption);(iterate 10 exact rfl);intro g_ fD fB;refine LZ ?_;(with_reducible apply a_.fI);exact rfl;exact ah;(iterate 9 exact rfl);exact aa;refine Na ?_;refine jf ?_;refine E4 ?_;refine P3 ?_)
           exact Xv
         |false=>
          have U1:(l[i].lits.drop (1:Int).toNat).length=l[i].lits.length - 1:=Ap
          have d5':eX sv (l[i].lits.drop (1:Int).toNat)=true:=d5
          (refine kA ?_;refine aA ?_;refine Q3 ?_;(with_reducible apply a_.inline (hf:=Tryz.func62));(with_reducible assumption);(iterate 10 exact rfl);intro g_ fD fB;refine J_ ?_;(with_reducible apply AW.fY);exact rfl;exact rfl;kernel_rfl;(with_reducible assumption);refine It ?_;refine ay ?_;refine Ib ?_;refine lg ?_;refine J9 ?_;refine ay ?_;refine Ru ?_;refine ay ?_;refine zr ?_;refine uZ ?_;refine D3 ?_;refine qw ?_;refine rH ?_;refine a_.qk rfl rfl rfl rfl rfl rfl rfl aJ aJ ?_;refine n_ ?_)
          (refine nz ?_;apply AW.gN [66,65,64,63,61,60,59,58,57,56,55,54,15,14,13,12,9,8,4,3,0,1073,1072,1071,1070,1069,1068,1015,1014,1012,1013,1056,1055,1054,1008,1009,1002] [6,5,4,2] (fun j:Nat=>([(67,eV j),(5,.own 7 3 1 ((l[i].lits[0]::((l[i].lits.drop (1:Int).toNat).take j).map fun x=> -x).map encI))]:List (Nat×AV))) (fun j:Nat=>([(3,some (.box [eV (sv+1),.own 2 29 1 ((scl++((l[i].lits.drop (1:Int).toNat).take j).map fun x=>[-l[i].lits[0],x]).map fun c=>[ints c]),eV v,.pv (jj syms),.own 4 4 1 ((py.valid ⟨v,cl,syms⟩).map oz),fh false])),(7,some .row)]:List (Nat×Option Ob))) (fun j:Nat=>j≤(l[i].lits.drop (1:Int).toNat).length) (fun j:Nat=>(l[i].lits.drop (1:Int).toNat).length - j) (0);(conv=>lhs;simp only[Nf.nN,Nf.all,di,reduceAdd,reduceSub]);(all_goals skip))
          ·exact bm _
          ·exact Q6
          rintro j hj
          have Fv:((l[i].lits.drop (1:Int).toNat).take j).length≤900:=by rw[dI];omega
          by_cases qz:j<(l[i].lits.drop (1:Int).toNat).length
          ·have Lp:=fE d5' _ (cZ qz)
           have sZ:=fw qz
           have jB:(l[i].lits[0]::((l[i].lits.drop (1:Int).toNat).take (j+1)).map fun x=> -x).map encI=(l[i].lits[0]::((l[i].lits.drop (1:Int).toNat).take j).map fun x=> -x).map encI++ [encI (-(l[i].lits.drop (1:Int).toNat)[j])]:=by rw[sZ];simp
           have je:((scl++((l[i].lits.drop (1:Int).toNat).take (j+1)).map fun x=>[-l[i].lits[0],x]).map fun c=>[ints c])=((scl++((l[i].lits.drop (1:Int).toNat).take j).map fun x=>[-l[i].lits[0],x]).map fun c=>[ints c])++ [[ints [-l[i].lits[0],(l[i].lits.drop (1:Int).toNat)[j]]]]:=by rw[sZ];simp
           (refine EG ?_;refine aA ?_;refine zr ?_;refine pB ?_;refine a_.fH rfl rfl rfl ?_;refine rH ?_;refine ay ?_;refine zr ?_;refine a_.neg rfl rfl rfl aJ ?_;refine zm ?_;refine Lw ?_;(with_reducible apply a_.inline (hf:=Tryz.func84));(with_reducible assumption);(iterate 10 exact rfl);intro g_ fD fB;refine LZ ?_;(with_reducible apply a_.fI);exact rfl;exact ah;(iterate 9 exact rfl);exact aa;refine Na ?_;refine jf ?_;refine pd ?_;refine a_.len rfl rfl rfl rfl ?_;refine zl ?_;refine a_.eql rfl rfl rfl rfl rfl ?_;refine a_.gO rfl rfl rfl rfl rfl rfl ?_;refine Sw ?_;(with_reducible apply a_.fI);exact rfl;exact ah;(iterate 9 exact rfl);exact aa;refine nz ?_;refine yB ?_;refine oI ?_)
           exact Q8
          ·rw[gC (l:=l[i].lits.drop (1:Int).toNat) aJ]
           have ke:(l[i].lits[0]::(l[i].lits.drop (1:Int).toNat).map fun x=> -x).length=(l[i].lits.drop (1:Int).toNat).length+1:=by simp
           (refine lU ?_;refine ly ?_;refine a_.fH rfl rfl rfl ?_;refine a_.fT rfl rfl rfl ?_;(with_reducible apply a_.inline (hf:=Tryz.func84));(with_reducible assumption);(iterate 10 exact rfl);intro g_ fD fB;refine LZ ?_;(with_reducible apply a_.fI);exact rfl;exact ah;(iterate 9 exact rfl);exact aa;refine Na ?_;refine jf ?_;refine Kv ?_;refine P3 ?_)
           exact Xv
       ·have d4':¬l[i].lits[(0:Int).toNat]'(by simp;omega)≤20000:=d4
        have nO:=gM fm (by rw[jn,ku,if_neg (by rintro⟨_,_,_,h,_⟩;rw[h0] at h;exact d4 h)])
        rw[nO] at fu
        rw[fu]
        (refine kA ?_;refine aA ?_;refine Q3 ?_;(with_reducible apply a_.inline (hf:=Tryz.func62));(with_reducible assumption);(iterate 10 exact rfl);intro g_ fD fB;refine Kb ?_;show a_ .held _ _ _ [_,_,_,_,_,_,_,_,_,_,_,_,_,_,_,_,_,_,_,_,_,_,_,_,_,_,_,_,_,_,_,_,_,_,_,_,_,_] _ _;refine It ?_;refine ay ?_;refine Ib ?_;refine lg ?_;refine J9 ?_;refine ay ?_;refine zy ?_;refine zr ?_;refine Cc ?_;refine zm ?_;(iterate 8 refine a_.jV rfl rfl rfl rfl rfl rfl (by first|omega|decide) ?_);refine Q4 ?_;intro k_ iL;refine LG ?_;intro g_ b_ f_;refine a_.jV rfl rfl rfl rfl rfl rfl (by first|omega|decide) ?_;refine Q4 ?_;refine Ke ?_;intro g_ b_;show a_ .held _ _ _ [_,_] _ _;refine a_.jV rfl rfl rfl rfl rfl rfl (by first|omega|decide) ?_;refine zT ?_;refine Q4 ?_;intro k_ iL;refine Dm ?_;(with_reducible apply AW.lx 14 9 12 3);(iterate 3 exact rfl);refine Bu ?_)
        (apply e6;(exact gk.two (.tmp rfl rfl) (.tmp rfl rfl));(refine Ak ?_;refine lY.cons ?_ ?_;refine Le.eV ?_;(first|rfl|simp);exact lY.nil))
      ·have d3':¬l[i].lits[(0:Int).toNat]'(by simp;omega)=s.vars+1:=d3
       have nO:=gM fm (by rw[jn,ku,if_neg (by rintro⟨_,_,h,_⟩;rw[h0] at h;exact d3 h)])
       rw[nO] at fu
       rw[fu]
       (refine kA ?_;refine aA ?_;refine Q3 ?_;(with_reducible apply a_.inline (hf:=Tryz.func62));(with_reducible assumption);(iterate 10 exact rfl);intro g_ fD fB;refine Kb ?_;show a_ .held _ _ _ [_,_,_,_,_,_,_,_,_,_,_,_,_,_,_,_,_,_,_,_,_,_,_,_,_,_,_,_,_,_,_,_,_,_,_,_,_,_] _ _;refine It ?_;refine ay ?_;refine Ib ?_;refine zm ?_;(iterate 5 refine a_.jV rfl rfl rfl rfl rfl rfl (by with_reducible assumption) ?_);refine zT ?_;refine zm ?_;(iterate 8 refine a_.gg rfl rfl rfl rfl rfl rfl rfl ?_);refine Q4 ?_;intro k_ iL;refine LG ?_;intro g_ b_ f_;refine AE ?_;refine Ke ?_;intro g_ b_;show a_ .held _ _ _ [_,_] _ _;refine F5 ?_;refine Q4 ?_;intro k_ iL;refine Dm ?_;(with_reducible apply AW.lx 14 9 12 3);(iterate 3 exact rfl);refine Bu ?_)
       (apply e6;(exact gk.two (.tmp rfl rfl) (.tmp rfl rfl));(refine Ak ?_;refine lY.cons ?_ ?_;refine Le.eV ?_;(first|rfl|simp);exact lY.nil))
     ·have d2':(l[i].lits.length:Int)<2:=by omega
      have nO:=gM fm (by rw[jn,ku,if_neg (by rintro⟨_,h,_⟩;exact d2 h)])
      rw[nO] at fu
      rw[fu]
      (refine kA ?_;refine aA ?_;refine Q3 ?_;(with_reducible apply a_.inline (hf:=Tryz.func62));(with_reducible assumption);(iterate 10 exact rfl);intro g_ fD fB;refine Kb ?_;show a_ .held _ _ _ [_,_,_,_,_,_,_,_,_,_,_,_,_,_,_,_,_,_,_,_,_,_,_,_,_,_,_,_,_,_,_,_,_,_,_,_,_,_] _ _;refine Ks ?_;refine lg ?_;refine J9 ?_;refine zn ?_;refine zy ?_;refine zs ?_;refine zF ?_;refine zm ?_;(iterate 11 refine a_.jV rfl rfl rfl rfl rfl rfl (by with_reducible assumption) ?_);refine zT ?_;refine zm ?_;(iterate 5 refine a_.gg rfl rfl rfl rfl rfl rfl rfl ?_);refine zh ?_;(iterate 8 refine a_.gg rfl rfl rfl rfl rfl rfl rfl ?_);refine Q4 ?_;intro k_ iL;refine LG ?_;intro g_ b_ f_;refine AE ?_;refine Ke ?_;intro g_ b_;show a_ .held _ _ _ [_,_] _ _;refine F5 ?_;refine Q4 ?_;intro k_ iL;refine Dm ?_;(with_reducible apply AW.lx 14 9 12 3);(iterate 3 exact rfl);refine Bu ?_)
      (apply e6;(exact gk.two (.tmp rfl rfl) (.tmp rfl rfl));(refine Ak ?_;refine lY.cons ?_ ?_;refine Le.eV ?_;(first|rfl|simp);exact lY.nil))
    ·have nO:=gM fm (by rw[jn,ku,if_neg (fun h=>d1 h.1)])
     rw[nO] at fu
     rw[fu]
     (refine kA ?_;refine aA ?_;refine Q3 ?_;(with_reducible apply a_.inline (hf:=Tryz.func62));(with_reducible assumption);(iterate 10 exact rfl);intro g_ fD fB;refine Kb ?_;show a_ .held _ _ _ [_,_,_,_,_,_,_,_,_,_,_,_,_,_,_,_,_,_,_,_,_,_,_,_,_,_,_,_,_,_,_,_,_,_,_,_,_,_] _ _;refine Ks ?_;refine zm ?_;refine LQ ?_;refine zm ?_;(iterate 11 refine a_.gg rfl rfl rfl rfl rfl rfl rfl ?_);refine zh ?_;(iterate 5 refine a_.gg rfl rfl rfl rfl rfl rfl rfl ?_);refine zh ?_;(iterate 8 refine a_.gg rfl rfl rfl rfl rfl rfl rfl ?_);refine Q4 ?_;intro k_ iL;refine LG ?_;intro g_ b_ f_;refine AE ?_;refine Ke ?_;intro g_ b_;show a_ .held _ _ _ [_,_] _ _;refine F5 ?_;refine Q4 ?_;intro k_ iL;refine Dm ?_;(with_reducible apply AW.lx 14 9 12 3);(iterate 3 exact rfl);refine Bu ?_)
     (apply e6;(exact gk.two (.tmp rfl rfl) (.tmp rfl rfl));(refine Ak ?_;refine lY.cons ?_ ?_;refine Le.eV ?_;(first|rfl|simp);exact lY.nil))
   by_cases k4:l[i].kind=4
   ·have Cj:jK (yx qD) l[i].kind=some (Av (.func 63)):=by rw[rJ,if_neg k1,if_neg k2,if_neg k3,if_pos k4]
    have jn:hO ⟨v,cl,syms⟩ s l[i]=oT ⟨v,cl,syms⟩ s l[i]:=En k4
    cases c2:eX s.vars l[i].lits with
    |false=>
     rw[c2] at hw
     have nO:=gM fm (by rw[jn,oT,if_neg (by rw[c2];simp)])
     rw[nO] at fu
     rw[fu]
     (refine kA ?_;refine aA ?_;refine Q3 ?_;(with_reducible apply a_.inline (hf:=Tryz.func63));(with_reducible assumption);(iterate 10 exact rfl);intro g_ fD fB;refine JQ ?_;(with_reducible apply AW.fY);exact rfl;exact rfl;kernel_rfl;(with_reducible assumption);refine zb ?_;refine Jy ?_;refine xB ?_;refine rH ?_;refine zA (hw) ?_;refine B9 ?_;refine E4 ?_;refine zm ?_;(iterate 8 refine a_.gg rfl rfl rfl rfl rfl rfl rfl ?_);refine zh ?_;(iterate 9 refine a_.gg rfl rfl rfl rfl rfl rfl rfl ?_);refine AK ?_;refine ly ?_;refine J2 ?_;(with_reducible apply AW.lx 14 9 12 3);(iterate 3 exact rfl);refine Bu ?_)
     (apply e6;(exact gk.two (.tmp rfl rfl) (.tmp rfl rfl));(refine Ak ?_;refine lY.cons ?_ ?_;refine Le.eV ?_;(first|rfl|simp);exact lY.nil))
    |true=>
     rw[c2] at hw
     by_cases m1:0≤l[i].sym
     ·by_cases m2:l[i].sym<syms.length
      ·have mt:l[i].sym.toNat<syms.length:=by omega
       have M6:syms.getD l[i].sym.toNat []=syms[l[i].sym.toNat]:=by rw[c8,a8 mt];rfl
       have Ty:(py.valid ⟨v,cl,syms⟩)[l[i].sym.toNat]'(by rw[Ny];exact mt)=iM v cl syms[l[i].sym.toNat]:=JL ⟨v,cl,syms⟩ mt
       cases m3:iM v cl syms[l[i].sym.toNat] with
       |false=>
        rw[m3] at Ty
        have nO:=gM fm (e:=⟨v,cl,syms⟩) (s:=s) (by rw[jn,oT,if_neg (by rw[M6,m3];simp)])
        rw[nO] at fu
        rw[fu]
        have KV:(!(py.valid ⟨v,cl,syms⟩)[l[i].sym.toNat]'(by rw[Ny];exact mt))=true:=by rw[Ty];rfl
        (refine kA ?_;refine aA ?_;refine Q3 ?_;(with_reducible apply a_.inline (hf:=Tryz.func63));(with_reducible assumption);(iterate 10 exact rfl);intro g_ fD fB;refine JQ ?_;(with_reducible apply AW.fY);exact rfl;exact rfl;kernel_rfl;(with_reducible assumption);refine RH ?_;refine au ?_;refine Cm ?_;refine zd ?_;refine AW.CX rfl rfl (by assumption) ?_;refine ly ?_;refine J2 ?_;(with_reducible apply AW.lx 14 9 12 3);(iterate 3 exact rfl);refine Bu ?_)
        (apply e6;(exact gk.two (.tmp rfl rfl) (.tmp rfl rfl));(refine Ak ?_;refine lY.cons ?_ ?_;refine Le.eV ?_;(first|rfl|simp);exact lY.nil))
       |true=>
        rw[m3] at Ty
        have KV:(!(py.valid ⟨v,cl,syms⟩)[l[i].sym.toNat]'(by rw[Ny];exact mt))=false:=by rw[Ty];rfl
        have zD:=mE l[i].lits (by omega)
        (refine kA ?_;refine aA ?_;refine Q3 ?_;(with_reducible apply a_.inline (hf:=Tryz.func63));(with_reducible assumption);(iterate 10 exact rfl);intro g_ fD fB;refine JQ ?_;(with_reducible apply AW.fY);exact rfl;exact rfl;kernel_rfl;(with_reducible assumption);refine RH ?_;refine au ?_;refine Cm ?_;refine zd ?_;refine AW.yQ rfl rfl (by assumption) ?_;refine Cd ?_;refine zo ?_;refine AW.gv [0,1,2,3,4,5,6,7,8,9] [13] rfl (by assumption) aI aI rfl ?_;show a_ .held _ _ _ [_,_,_,_,_,_,_,_,_,_] _ _;refine zb ?_;refine a_.fj rfl rfl rfl ?_;refine a_.c_ 59 2 3 rfl rfl rfl rfl ?_;refine zb ?_;refine a_.c_ 65 2 2 rfl rfl rfl rfl ?_;refine zb ?_;refine ay ?_;refine zr ?_;refine rH ?_;refine Q4 ?_;intro k_ iL;refine nz ?_;apply AR.cut [9,8,7,6,5,4,3,2,1,0,10,11,12];intro oK;apply AR.cut [9,8,7,6,5,4,3,2,1,0,10,12];intro tS;apply AR.cut [9,8,7,6,5,4,3,2,1,0,11,12];intro sd;apply AR.cut [9,8,7,6,5,4,3,2,1,0,10,11];intro sU;(refine AR.s9 (i:=10) (j:=11) (m:=12) rfl aI rfl rfl rfl ?_ ?_ ?_<;>intro g_ b_ f_);refine zP (zD) ?_;refine Q4 ?_;(refine AR.gP (i:=11) (j:=12) rfl aI rfl rfl ?_ ?_<;>intro g_ b_ f_);refine Fu ?_;refine u9 ?_;exact AR.perm aI sU;refine Fu ?_;exact Gq;refine uI ?_;refine Q4 ?_;(refine AR.gP (i:=10) (j:=12) rfl aI rfl rfl ?_ ?_<;>intro g_ b_ f_);refine zP (zD) ?_;refine Q4 ?_;(try refine nz ?_);refine AR.meet sU aI (fun g_=>fp rfl ?_ ?_ rfl);(iterate 79 refine aC ?_);exact trivial;exact Th;refine Fu ?_;refine u9 ?_;exact AR.perm aI sd;refine uI ?_;refine Q4 ?_;(refine AR.gP (i:=10) (j:=11) rfl aI rfl rfl ?_ ?_<;>intro g_ b_ f_);refine zP (zD) ?_;refine Q4 ?_;(try refine nz ?_);refine AR.meet tS aI (fun g_=>fp rfl ?_ ?_ rfl);(iterate 79 refine aC ?_);exact trivial;exact Th;refine Fu ?_;refine AR.sw 8 9 (by assumption) aI aI ?_;refine Gb ?_;refine AR.meet sd aI (fun g_=>fp rfl ?_ ?_ rfl);(iterate 79 refine aC ?_);exact trivial;refine⟨.box _ rfl ?_,?_⟩;exact ye;exact Th;refine AR.fG (i:=12) rfl aI rfl ?_;intro g_ b_ f_;refine Fu ?_;exact xk;refine AR.fG (i:=10) rfl aI rfl ?_;intro g_ b_ f_;refine zP (zD) ?_;refine Q4 ?_;(try refine nz ?_);exact QI;refine AR.fG (i:=11) rfl aI rfl ?_;intro g_ b_ f_;refine Fu ?_;refine AR.sw 8 9 (by assumption) aI aI ?_;refine Gb ?_;exact QI;refine xD ?_;intro g_ b_ fe;refine tK ?_;refine uS ?_;intro g_ b_ fe;refine DX ?_;refine wH ?_;refine yP ?_;refine zb ?_;refine Jy ?_;refine vB ?_;refine a_.CE rfl rfl rfl rfl rfl rfl rfl ?_;(with_reducible apply a_.inline (hf:=Tryz.func65));(with_reducible assumption);(iterate 10 exact rfl);intro g_ fD fB;refine sW ?_;refine a_.fT rfl rfl rfl ?_;refine a_.j7 rfl rfl rfl ?_;(with_reducible apply a_.inline (hf:=Tryz.func86));(with_reducible assumption);(iterate 10 exact rfl);intro g_ fD fB;refine uw ?_;refine tg ?_;refine H8 ?_;refine zZ ?_)
        obtain⟨y1,y2⟩:=nu m3
        have VG:=tb hf.hv y2
        have Yh:=HI.2 _ (cZ mt)
        (refine nz ?_;apply AW.gN [7,0,1,1006,1005,1004,1000,1001,2058,2057,2056,2055,2054,2053,2006,2005,2015,2014,2013,2012,2009,2008,2004,2003,2002,3073,3072,3071,3070,3069,3068,3015,3014,3012,3013,3056,3055,3054,3008,3009,3002] [9,8,7,6,5,3,4,2] (fun j:Nat=>([(8,eV j)]:List (Nat×AV))) (fun j:Nat=>([]:List (Nat×Option Ob))) (fun j:Nat=>j≤s.cl.length∧(s.cl.take j).any (lD v syms[l[i].sym.toNat] l[i].lits)=false) (fun j:Nat=>s.cl.length - j) (0);(conv=>lhs;simp only[Nf.nN,Nf.all,di,reduceAdd,reduceSub]);(all_goals skip))
        ·exact⟨bm _,rfl⟩
        ·exact Q7
        rintro j ⟨hj,z6⟩
        by_cases qz:j<s.cl.length
        ·obtain⟨q1,q2⟩:=xj.iR _ (cZ qz)
         have Um:=oh v s.cl[j] (by omega)
         have Aq:=sB (p:=lD v syms[l[i].sym.toNat] l[i].lits) qz
         rw[z6,cK] at Aq
         cases e1:eX v s.cl[j] with
         |false=>
          rw[e1] at Um
          have JZ:lD v syms[l[i].sym.toNat] l[i].lits s.cl[j]=false:=by unfold lD;rw[e1];rfl
          rw[JZ] at Aq
          (refine FN ?_;refine zm ?_;refine GF ?_;refine au ?_;(with_reducible apply a_.inline (hf:=Tryz.func89));(with_reducible assumption);(iterate 10 exact rfl);intro g_ fD fB;refine L0 ?_;show a_ .held _ _ _ [_,_,_,_,_] _ _;refine zb ?_;refine Mp ?_;intro k_ iL;refine Lx ?_;intro g_ b_ f_;refine KC ?_;intro g_ b_;show a_ .held _ _ _ [_,_,_,_] _ _;refine zm ?_;(iterate 3 refine a_.gg rfl rfl rfl rfl rfl rfl rfl ?_);refine Q4 ?_;intro k_ iL;refine Mh ?_;intro g_ b_ f_;refine AE ?_;refine AR.fG (i:=10) rfl aI rfl ?_;intro g_ b_ f_;refine AE ?_;refine AR.fG (i:=12) rfl aI rfl ?_;intro g_ b_ f_;refine AE ?_;refine AR.iw [13,14] aI aI aI aI ?_;intro g_ b_;show a_ .held _ _ _ [_,_] _ _;refine a_.gO rfl rfl rfl rfl rfl rfl ?_;refine za ?_;refine Q4 ?_;intro k_ iL;refine Ge ?_;refine w8 ?_;refine rK ?_;refine Ba ?_)
          exact T3
         |true=>
          rw[e1] at Um
          have GK:=A8 syms[l[i].sym.toNat] s.cl[j] VG aJ aJ (by rw[y1];exact e1)
          have t_:=AJ syms[l[i].sym.toNat] s.cl[j]
          have Yi:=mE (mr syms[l[i].sym.toNat] s.cl[j]) (by omega)
          have heq:=sM (canon (mr syms[l[i].sym.toNat] s.cl[j])) (canon l[i].lits)
          by_cases he:canon (mr syms[l[i].sym.toNat] s.cl[j])=canon l[i].lits
          ·rw[decide_eq_true he] at heq
           have JZ:lD v syms[l[i].sym.toNat] l[i].lits s.cl[j]=true:=by unfold lD;rw[e1,decide_eq_true he];rfl
           have Ft:hO ⟨v,cl,syms⟩ s l[i]=some (vV s l[i].lits):=by rw[jn,oT,if_pos ⟨c2,⟨m1,m2⟩,by rw[M6];exact m3,by rw[M6];exact vb qz JZ⟩]
           have nO:=p_ fm Ft
           rw[nO] at fu
           have FH:=xj.step2 hL Ft
           obtain⟨sv,scl,rf⟩:=s
           simp only[vV] at*
           have hlj':j<scl.length:=qz
           cases rf with
           |true=>
            (refine FN ?_;refine zm ?_;refine GF ?_;refine au ?_;(with_reducible apply a_.inline (hf:=Tryz.func89));(with_reducible assumption);(iterate 10 exact rfl);intro g_ fD fB;refine L0 ?_;show a_ .held _ _ _ [_,_,_,_,_] _ _;refine zb ?_;refine Mp ?_;intro k_ iL;refine Lx ?_;intro g_ b_ f_;refine KC ?_;intro g_ b_;show a_ .held _ _ _ [_,_,_,_] _ _;refine zm ?_;refine zl ?_;refine zb ?_;refine pd ?_;refine zb ?_;refine Q4 ?_;intro k_ iL;refine Mh ?_;intro g_ b_ f_;refine Nv ?_;intro g_ b_ f_;refine Oi ?_;intro g_ b_ f_;refine N2 ?_;intro g_ b_;show a_ .held _ _ _ [_,_] _ _;refine a_.jz rfl rfl rfl rfl rfl rfl ?_;refine za ?_;refine Q4 ?_;intro k_ iL;refine Ge ?_;refine FP ?_;refine LH ?_;refine se ?_;refine zb ?_;refine rH ?_;(with_reducible apply a_.inline (hf:=Tryz.func84));(with_reducible assumption);(iterate 10 exact rfl);intro g_ fD fB;refine nz ?_;refine G0 ?_;refine zm ?_;refine uZ ?_;(with_reducible apply a_.fI);exact rfl;exact ah;(iterate 9 exact rfl);exact aa;refine Na ?_;refine jf ?_;refine E4 ?_;refine P3 ?_)
            exact Tl
           |false=>
            (refine FN ?_;refine zm ?_;refine GF ?_;refine au ?_;(with_reducible apply a_.inline (hf:=Tryz.func89));(with_reducible assumption);(iterate 10 exact rfl);intro g_ fD fB;refine L0 ?_;show a_ .held _ _ _ [_,_,_,_,_] _ _;refine zb ?_;refine Mp ?_;intro k_ iL;refine Lx ?_;intro g_ b_ f_;refine KC ?_;intro g_ b_;show a_ .held _ _ _ [_,_,_,_] _ _;refine zm ?_;refine zl ?_;refine zb ?_;refine pd ?_;refine zb ?_;refine Q4 ?_;intro k_ iL;refine Mh ?_;intro g_ b_ f_;refine Nv ?_;intro g_ b_ f_;refine Oi ?_;intro g_ b_ f_;refine N2 ?_;intro g_ b_;show a_ .held _ _ _ [_,_] _ _;refine a_.jz rfl rfl rfl rfl rfl rfl ?_;refine za ?_;refine Q4 ?_;intro k_ iL;refine Ge ?_;refine FP ?_;refine LH ?_;refine se ?_;refine zb ?_;refine rH ?_;(with_reducible apply a_.inline (hf:=Tryz.func84));(with_reducible assumption);(iterate 10 exact rfl);intro g_ fD fB;refine nz ?_;refine G0 ?_;refine zm ?_;refine uZ ?_;(with_reducible apply a_.fI);exact rfl;exact ah;(iterate 9 exact rfl);exact aa;refine Na ?_;refine jf ?_;refine Kv ?_;refine P3 ?_)
            exact Tl
          ·rw[decide_eq_false he] at heq
           have JZ:lD v syms[l[i].sym.toNat] l[i].lits s.cl[j]=false:=by unfold lD;rw[e1,decide_eq_false he];rfl
           rw[JZ] at Aq
           (refine FN ?_;refine zm ?_;refine GF ?_;refine au ?_;(with_reducible apply a_.inline (hf:=Tryz.func89));(with_reducible assumption);(iterate 10 exact rfl);intro g_ fD fB;refine L0 ?_;show a_ .held _ _ _ [_,_,_,_,_] _ _;refine zb ?_;refine Mp ?_;intro k_ iL;refine Lx ?_;intro g_ b_ f_;refine KC ?_;intro g_ b_;show a_ .held _ _ _ [_,_,_,_] _ _;refine zm ?_;refine zl ?_;refine zb ?_;refine pd ?_;refine zb ?_;refine Q4 ?_;intro k_ iL;refine Mh ?_;intro g_ b_ f_;refine Nv ?_;intro g_ b_ f_;refine Oi ?_;intro g_ b_ f_;refine N2 ?_;intro g_ b_;show a_ .held _ _ _ [_,_] _ _;refine a_.jz rfl rfl rfl rfl rfl rfl ?_;refine za ?_;refine Q4 ?_;intro k_ iL;refine Ge ?_;refine w8 ?_;refine rK ?_;refine Ba ?_)
           exact T3
        ·rw[gC (l:=s.cl) aJ] at z6
         have nO:=gM fm (by rw[jn,oT,if_neg (by rw[M6,z6];simp)])
         rw[nO] at fu
         rw[fu]
         (refine lU ?_;refine lf ?_;refine LH ?_;refine th ?_;refine ly ?_;refine J2 ?_;(with_reducible apply AW.lx 14 9 12 3);(iterate 3 exact rfl);refine Bu ?_)
         (apply e6;(exact gk.two (.tmp rfl rfl) (.tmp rfl rfl));(refine Ak ?_;refine lY.cons ?_ ?_;refine Le.eV ?_;(first|rfl|simp);exact lY.nil))
      ·have nO:=gM fm (by rw[jn,oT,if_neg (by rintro⟨_,⟨_,h⟩,_⟩;exact m2 h)])
       rw[nO] at fu
       rw[fu]
       (refine kA ?_;refine aA ?_;refine Q3 ?_;(with_reducible apply a_.inline (hf:=Tryz.func63));(with_reducible assumption);(iterate 10 exact rfl);intro g_ fD fB;refine JQ ?_;(with_reducible apply AW.fY);exact rfl;exact rfl;kernel_rfl;(with_reducible assumption);refine WJ ?_;(iterate 9 refine a_.jV rfl rfl rfl rfl rfl rfl (by first|omega|decide) ?_);refine zT ?_;refine th ?_;refine ly ?_;refine J2 ?_;(with_reducible apply AW.lx 14 9 12 3);(iterate 3 exact rfl);refine Bu ?_)
       (apply e6;(exact gk.two (.tmp rfl rfl) (.tmp rfl rfl));(refine Ak ?_;refine lY.cons ?_ ?_;refine Le.eV ?_;(first|rfl|simp);exact lY.nil))
     ·have nO:=gM fm (by rw[jn,oT,if_neg (by rintro⟨_,⟨h,_⟩,_⟩;exact m1 h)])
      rw[nO] at fu
      rw[fu]
      (refine kA ?_;refine aA ?_;refine Q3 ?_;(with_reducible apply a_.inline (hf:=Tryz.func63));(with_reducible assumption);(iterate 10 exact rfl);intro g_ fD fB;refine JQ ?_;(with_reducible apply AW.fY);exact rfl;exact rfl;kernel_rfl;(with_reducible assumption);refine zb ?_;refine Jy ?_;refine xB ?_;refine rH ?_;refine zA (hw) ?_;refine B9 ?_;refine zl ?_;refine a_.c_ 65 2 2 rfl rfl rfl rfl ?_;refine Cw ?_;refine zs ?_;refine a_.gO rfl rfl rfl rfl rfl rfl ?_;refine zm ?_;(iterate 8 refine a_.jV rfl rfl rfl rfl rfl rfl (by first|omega|decide) ?_);refine zT ?_;refine zm ?_;(iterate 9 refine a_.gg rfl rfl rfl rfl rfl rfl rfl ?_);refine AK ?_;refine ly ?_;refine J2 ?_;(with_reducible apply AW.lx 14 9 12 3);(iterate 3 exact rfl);refine Bu ?_)
      (apply e6;(exact gk.two (.tmp rfl rfl) (.tmp rfl rfl));(refine Ak ?_;refine lY.cons ?_ ?_;refine Le.eV ?_;(first|rfl|simp);exact lY.nil))
   have Cj:jK (yx qD) l[i].kind=none:=by rw[rJ,if_neg k1,if_neg k2,if_neg k3,if_neg k4]
   have nO:=gM fm (Er (e:=⟨v,cl,syms⟩) (s:=s) k1 k2 k3 k4)
   rw[nO] at fu
   rw[fu]
   (refine kA ?_;refine aA ?_;refine a_.zK rfl rfl rfl rfl ?_;refine nz ?_;refine uI ?_;refine za ?_;refine zB ?_;refine nz ?_;refine zd ?_;refine ta ?_;refine a_.c_ 65 0 0 rfl rfl rfl rfl ?_;refine zb ?_;refine a_.Dt rfl rfl rfl rfl rfl rfl rfl rfl (by with_reducible assumption) ?_;refine Ox ?_;refine ly ?_;refine zm ?_;refine B9 ?_;(iterate 5 refine a_.gg rfl rfl rfl rfl rfl rfl rfl ?_);refine AK ?_;(with_reducible apply AW.lx 14 9 12 3);(iterate 3 exact rfl);refine Bu ?_)
   (apply e6;(exact gk.two (.tmp rfl rfl) (.tmp rfl rfl));(refine Ak ?_;refine lY.cons ?_ ?_;refine Le.eV ?_;(first|rfl|simp);exact lY.nil))
  ·rw[List.drop_eq_nil_of_le aJ,vm] at fu
   have Zx:i=l.length:=by omega
   have W_:R.1.ref=s.ref:=by rw[fu]
   have X4:R.2=l.length:=by rw[fu,Zx];simp
   rw[W_,X4]
   (refine lU ?_;(with_reducible apply AW.lx 16 9 2 3);(iterate 3 exact rfl);(try refine nz ?_);refine zq ?_;refine a_.sV rfl rfl rfl ?_;refine zm ?_;refine zn ?_;refine a_.lQ rfl rfl rfl ?_;refine kQ ?_)
   (apply e6;(exact gk.two (.tmp rfl rfl) (.tmp rfl rfl));(refine Ak ?_;refine lY.cons ?_ ?_;refine Le.eV ?_;(rfl);exact lY.nil))
end Go.Ab
