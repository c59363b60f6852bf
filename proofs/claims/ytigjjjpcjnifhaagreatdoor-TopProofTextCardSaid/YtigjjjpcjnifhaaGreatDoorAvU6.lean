/- Chapter 23: the checker's run. -/
import Derived.Test.YtigjjjpcjnifhaaGreatDoorAvC2
import Derived.Test.YtigjjjpcjnifhaaGreatDoorAbZ
import Derived.Test.YtigjjjpcjnifhaaGreatDoorAbL3
import Derived.Test.YtigjjjpcjnifhaaGreatDoorAvU5
set_option linter.unusedSimpArgs false
set_option linter.unusedVariables false
open Nat renaming reduceBEq→di,zero_le→bk,add_assoc→bF
open Bool renaming false_or→cJ
open List renaming findIdx_cons→eV,getElem_mem→cZ,map_append→cU,getD_eq_getElem?_getD→c8,getElem?_eq_getElem→a8,length_take→dI
namespace Go.Ab
open Go Go.Proofs
open Nat (reduceAdd reduceSub)
set_option maxRecDepth 20000
set_option maxHeartbeats 8000000
attribute [local irreducible] AW a_ ga ft AR fB fp fG fU canon l4 kd ox pA mN e_ jg hU
theorem EA (l:List (List Int)) (hl:l.length≤1000000):L1 Tryz.prog 64 [.pv (jm l)] 29 1 (l.map fun c=>[ints c]):=by
 refine L1.enter (n:=8) Tryz.func64 rfl rfl rfl rfl rfl (by decide) fun g fE fD=>?_;(try refine nz ?_)
 by_cases h0:l=[]
 ·subst h0
  have e0:([]:List (List Int)).length=0:=rfl
  (refine ta ?_;(focus ((with_reducible apply a_.rR);(iterate 6 exact rfl);all_goals intro r6));refine vc ?_;(all_goals skip);rotate_left;refine G0 ?_;refine uc ?_;(with_reducible apply a_.fJ);exact rfl;exact ah;(iterate 9 exact rfl);exact aa;refine nz ?_;refine tE ?_;(all_goals skip);rotate_left)
  all_goals ((first|(refine jj (gn.one (.tmp rfl rfl)) ?_)|(refine jj (gn.one (.cell1 rfl rfl rfl rfl)) ?_)|(refine mY (gn.one (.tmp rfl rfl)) ?_));(first|rfl|simp))
 ·have e0:0<l.length:=List.length_pos_iff.2 h0
  have e1:¬(l.map fun c=>[ints c])=[]:=by simpa using h0
  clear h0
  (refine ta ?_;(focus ((with_reducible apply a_.rR);(iterate 6 exact rfl);all_goals intro r6));refine vc ?_;(all_goals skip);rotate_left;refine G0 ?_;refine uc ?_;(with_reducible apply a_.fJ);exact rfl;exact ah;(iterate 9 exact rfl);exact aa;refine nz ?_;refine tE ?_;(all_goals skip);rotate_left)
  ·exact absurd r6 e1
  ·((first|(refine jj (gn.one (.tmp rfl rfl)) ?_)|(refine jj (gn.one (.cell1 rfl rfl rfl rfl)) ?_)|(refine mY (gn.one (.tmp rfl rfl)) ?_));(first|rfl|simp))
theorem M3 (cl:List (List Int)) (hl:cl.length≤1000000):Fn Tryz.prog 65 [.pv (jm cl),.jJ (.func 66) [] []] (fu (cl.any fun c=>decide ((c.length:Int)=0))):=by
 refine Fn.enter (n:=9) Tryz.func65 rfl rfl rfl rfl rfl (by decide) fun g fE fD=>?_;(try refine nz ?_)
 (refine sK ?_;refine zm ?_;refine a_.jA rfl rfl rfl ?_;(with_reducible apply a_.inline (hf:=Tryz.func86));(with_reducible assumption);(iterate 10 exact rfl);intro g_ fE fD;refine nz ?_;refine ta ?_;refine nj ?_)
 (refine nz ?_;apply AW.gP [7,0,1,1006,1005,1004,1000,1001] [] (fun k:Nat=>([(8,e7 k)]:List (Nat×AV))) (fun k:Nat=>([]:List (Nat×Option Ob))) (fun k:Nat=>k≤cl.length∧(cl.take k).any (fun c=>decide ((c.length:Int)=0))=false) (fun k:Nat=>cl.length - k) (0);(conv=>lhs;simp only[Nf.n7,Nf.all,di,reduceAdd,reduceSub]);(all_goals skip))
 ·exact⟨bk _,rfl⟩
 ·exact fy rfl (by(refine aC ?_;(iterate 8 refine aC ?_);exact trivial)) (by(exact trivial)) rfl
 rintro k ⟨hk,zx⟩
 by_cases fx:k<cl.length
 ·have A4:=sC (p:=fun c:List Int=>decide ((c.length:Int)=0)) fx
  rw[zx,cJ] at A4
  by_cases he:(cl[k].length:Int)=0
  ·rw[vu (p:=fun c:List Int=>decide ((c.length:Int)=0)) fx (decide_eq_true he)]
   (refine Ax ?_;refine aA ?_;refine zr ?_;(with_reducible apply a_.inline (hf:=Tryz.func66));(with_reducible assumption);(iterate 10 exact rfl);intro g_ fE fD;refine wF ?_;refine zn ?_;refine a_.eql rfl rfl rfl rfl rfl ?_;refine kH ?_;refine xq ?_;refine lq ?_;refine zq ?_;refine zm ?_;refine kH ?_;refine zJ ?_;refine xq ?_;refine Hp ?_)
   (apply e9;(exact gn.one (.tmp rfl rfl));(refine Le.fu ?_;(first|rfl|exact decide_eq_true aJ)))
  ·rw[decide_eq_false he] at A4
   (refine Ax ?_;refine aA ?_;refine zr ?_;(with_reducible apply a_.inline (hf:=Tryz.func66));(with_reducible assumption);(iterate 10 exact rfl);intro g_ fE fD;refine wF ?_;refine zn ?_;refine a_.eql rfl rfl rfl rfl rfl ?_;refine kH ?_;refine xq ?_;refine F8 ?_;refine yy ?_)
   exact⟨k+1,⟨by omega,A4⟩,by omega,fy rfl (by(refine aC ?_;(iterate 8 refine aC ?_);exact trivial)) (by(exact trivial)) rfl⟩
 ·rw[iv (l:=cl) aJ] at zx
  rw[zx]
  (refine uB ?_;refine oH ?_;refine xq ?_;refine Hp ?_)
  (apply e9;(exact gn.one (.tmp rfl rfl));(refine Le.fu ?_;(first|rfl|exact decide_eq_false aJ)))
theorem y5 (e:pK):e.valid.length=e.syms.length:=by unfold pK.valid;simp
theorem J_ (e:pK) {k:Nat} (h:k<e.syms.length):e.valid[k]'(by rw[y5];exact h)=jg e.v0 e.cl0 e.syms[k]:=by simp [pK.valid]
theorem HK (e:pK):e.valid=e.syms.map (jg e.v0 e.cl0):=rfl
theorem Fm {e:pK} {s:n5} {t:gH} (h:t.kind=2):ig e s t=lY s t:=by unfold ig;rw[if_neg aJ,if_pos h]
theorem FN {e:pK} {s:n5} {t:gH} (h:t.kind=3):ig e s t=kK s t:=by unfold ig;rw[if_neg aJ,if_neg aJ,if_pos h]
theorem Fj {e:pK} {s:n5} {t:gH} (h:t.kind=4):ig e s t=pj e s t:=by unfold ig;rw[if_neg aJ,if_neg aJ,if_neg aJ,if_pos h]
theorem Ft {e:pK} {s:n5} {t:gH} (h1:¬t.kind=1) (h2:¬t.kind=2) (h3:¬t.kind=3) (h4:¬t.kind=4):ig e s t=none:=by unfold ig;rw[if_neg h1,if_neg h2,if_neg h3,if_neg h4]
theorem wQ (e:pK) (s:n5):jd e s []=(s,0):=by unfold jd;rfl
theorem vJ {α:Type} {p:α→Bool}:∀{l:List α} {j:Nat} (hj:j<l.length),(l.take j).any p=false→p l[j]=true→l.findIdx p=j
 |[],j,hj,_,_=>by simp at hj
 |x::l,0,hj,_,h=>by simp at h;simp [eV,h]
 |x::l,j+1,hj,h1,h2=>by
  simp only[List.take_succ_cons,List.any_cons,Bool.or_eq_false_iff] at h1
  have:=vJ (l:=l) (by simpa using hj) h1.2 (by simpa using h2)
  simp [eV,h1.1,this]
theorem Aj {e:pK} {s:n5} {t:gH} (h:t.kind=1):ig e s t=ni s t:=by unfold ig;rw[if_pos h]
theorem a_.W7 (j:Nat) (l:List (List Int)) {g:e6} {δ:DS} {ops:Array Oper} {rest:List Oper} {Q:Exit→DS→Prop} {dst:Option Nat} {ty:TypeId} {pos:String} {af:Array Edge} {x y z:Operand} {tys:Array TypeId} {r:Nat} {e:TypeId} {m:Int}
  (hx:δ.ev x=.own r e 1 (l.map fun c=>[ints c])) (hy:δ.ev y=e7 (j:Nat)) (hz:δ.ev z=e7 m) (hr:δ.ob r=some .row) (ho:fq x=true) (f_:fq y=true) (rZ:fq z=true) (hd:fR δ.n dst=true) (hm:m=(j:Int)+1) (hi:j<l.length)
  (hK:a_ .plain Tryz.prog g ops rest Q ((δ.gF (AV.kill r)).eY dst (.own r e 1 ((l.eraseIdx j).map fun c=>[ints c])))):
  a_ .plain Tryz.prog g ops (⟨dst,.call {callee:=.value (.func 88),args:= #[x,y,z],argTypes:=tys},ty,pos,af,none⟩::rest) Q δ:=a_.P5 TY hx hy hz hr ho f_ rZ hd hm hi hK
theorem AW.lD (id t u i:Nat) {P:Program} {g:e6} {δ:DS} {Q:Exit→DS→Prop} {b:Bool} {l:Array Oper} {p:PV} {c0 c1 c2 c3 c4:AV} {rf:Bool} (h:δ.get t=.ptr i 0) (hu:δ.get u=.pv p) (hb:δ.ob i=some (.box [c0,c1,c2,c3,c4,fu rf]))
  {cc:Code} (hK:AW P g ((Code.region id l b).seq cc) Q {n:=δ.n,env:=[(t,.gp [.any,.any,.any,.any,.any,.lit (.bool rf)]),(u,.pv p)],gq:=[],nx:=δ.nx}):AW P g ((Code.region id l b).seq cc) Q δ:=
 AW.fy (δ':={n:=δ.n,env:=[(t,.gp [.any,.any,.any,.any,.any,.lit (.bool rf)]),(u,.pv p)],gq:=[],nx:=δ.nx}) (Go.Ab.fy rfl ⟨by rw[h];exact .fbox hb rfl (.cons (.any _) (.cons (.any _) (.cons (.any _) (.cons (.any _) (.cons (.any _) (.cons (.pv _) .nil)))))),by rw[hu];exact .eq rfl rfl,trivial⟩ trivial rfl) hK
def qQ:List (Int×Go.Fn):=[(1,.func 60),(2,.func 61),(3,.func 62),(4,.func 63)]
theorem sf (k:Int):j2 (AG qQ) k=if k=1 then some (A9 (.func 60)) else if k=2 then some (A9 (.func 61)) else if k=3 then some (A9 (.func 62)) else if k=4 then some (A9 (.func 63)) else none:=rfl
theorem M5:some (Ob.mp (j9 ([]++ [(1,A9 (.func 60))]++ [(2,A9 (.func 61))]++ [(3,A9 (.func 62))]++ [(4,A9 (.func 63))])))=some (Ob.mp (j9 (AG qQ))):=rfl
theorem nJ {v:Int} {cl:List (List Int)} {sy:List Int} (h:jg v cl sy=true):(sy.length:Int)=v∧e_ v sy=true:=by
 unfold jg at h
 simp only[Bool.and_eq_true,decide_eq_true_eq] at h
 exact⟨h.1.1.1,h.1.1.2⟩
attribute [local irreducible] AG I_ qQ jd ig pK.valid
theorem KS (v:Int) (cl:List (List Int)) (syms:List (List Int)) (l:List gH) (ln:nf 1000 (iB v cl)) (HT:syms.length≤1000∧∀c∈syms,c.length≤1000) (hl:wS l≤900000∧∀t∈l,t.lits.length≤900):
  Fn Tryz.prog 28 [H6 v cl,.pv (jm syms),.pv (steps l)] (.gM [.gp [.any,.any,.any,.any,.any,.lit (.bool (jd ⟨v,cl,syms⟩ (iB v cl) l).1.ref)],e7 ((jd ⟨v,cl,syms⟩ (iB v cl) l).2:Nat)]):=by
 have hf:TO v cl:=ln.f (by omega)
 have Is:cl.length≤1000:=ln.len
 have JI:0≤v∧v≤20000:=ln.hv
 have hlen:=Ky l
 have Ro:=EA cl (by omega)
 have ha0:=M3 cl (by omega)
 have Xg:iB v cl=⟨v,cl,cl.any fun c=>decide ((c.length:Int)=0)⟩:=rfl
 refine Fn.enter (n:=83) Tryz.func28 rfl rfl rfl rfl rfl (by decide) fun g fE fD=>?_;(try refine nz ?_)
 (refine Da ?_;refine lj ?_;refine mF ?_;refine a_.makeMap (t:=106) rfl ?_;refine nz ?_;refine NH ?_;refine nz ?_;refine NH ?_;refine nz ?_;refine NH ?_;refine nz ?_;refine NH ?_;refine nz ?_;refine a_.GY rfl rfl rfl ?_;refine a_.Cp rfl rfl rfl ?_;refine zd ?_;refine zo ?_;refine AW.gB [0,1,2,3,6,7,8] [] rfl (by assumption) aI aI rfl ?_;show a_ .held _ _ _ [_,_,_,_,_,_,_] _ _;refine u7 ?_;refine pE ?_;refine u7 ?_;refine zm ?_;refine J4 ?_;intro k_ ja;refine nz ?_;refine AR.fM (i:=4) rfl aI rfl ?_;intro g_ c_ gh;(with_reducible apply a_.On (Ro));exact aj;exact rfl;refine qk ?_;refine AR.free 5 aI rfl rfl rfl (fO.build 24 [0,1] rfl rfl rfl rfl rfl rfl rfl rfl) ?_;(try refine nz ?_);refine AR.free 9 aI rfl rfl rfl (fO.build 59 [0,2,3] rfl rfl rfl rfl rfl rfl rfl rfl) ?_;(try refine nz ?_);refine AR.fM (i:=10) rfl aI rfl ?_;intro g_ c_ gh;refine a_.box rfl rfl rfl rfl ?_;refine qk ?_;refine AR.iI [11] aI aI aI aI ?_;intro g_ c_;show a_ .held _ _ _ [_] _ _;refine a_.nm rfl rfl rfl ?_;refine J4 ?_;intro k_ ja;refine nz ?_;refine Hj ?_;refine B6 ?_;refine pE ?_;(refine a_.R8 ha0 (.cons rfl (.pv _) .nil) rfl rfl (fun h=>by cases h) ?_);(try refine nz ?_);refine a_.fe rfl rfl rfl ?_;refine a_.b_ 59 4 5 rfl rfl rfl rfl ?_;refine BC ?_;refine zd ?_;refine mD ?_;refine nj ?_)
 refine AW.fy (δ':={n:=83,env:=[(8,.pv (.mp (I_ qQ))),(37,e7 0),(36,e7 syms.length),(35,.pv (jm syms)),(9,.ptr 3 0),(3,.ptr 0 0),(2,.pv (steps l))],gq:=[(3,some (.box [e7 v,.own 2 29 1 (cl.map fun c=>[ints c]),e7 v,.pv (jm syms),.pv (.lit (.slice none 0 0)),fu (cl.any fun c=>decide ((c.length:Int)=0))])),(2,some .row),(0,some (.box [e7 v,.pv (jm cl)]))],nx:=4}) (Go.Ab.fy rfl ⟨.fns (l:=qQ) M5 rfl,.eq rfl rfl,.eq rfl rfl,.eq rfl rfl,.eq rfl rfl,.eq rfl rfl,.eq rfl rfl,trivial⟩ ⟨.box _ rfl ⟨.eq rfl rfl,.eq rfl rfl,.eq rfl rfl,.eq rfl rfl,.eq rfl rfl,.eq rfl rfl,trivial⟩,.row rfl,.box _ rfl ⟨.eq rfl rfl,.eq rfl rfl,trivial⟩,trivial⟩ rfl) ?_
 (apply AW.gP [8,36,35,9,3,2] [2,0] (fun i:Nat=>([(37,e7 i)]:List (Nat×AV))) (fun i:Nat=>([(3,some (.box [e7 v,.own 2 29 1 (cl.map fun c=>[ints c]),e7 v,.pv (jm syms),.own 4 4 1 (((syms.take i).map (jg v cl)).map oI),fu (cl.any fun c=>decide ((c.length:Int)=0))])),(4,some .row)]:List (Nat×Option Ob))) (fun i:Nat=>i≤syms.length) (fun i:Nat=>syms.length - i) (0);(conv=>lhs;simp only[Nf.n7,Nf.all,di,reduceAdd,reduceSub]);(all_goals skip))
 ·exact bk _
 ·exact J7
 rintro i hi
 by_cases fx:i<syms.length
 ·have hso:=Ih v cl syms[i] hf (by have:=HT.2 _ (cZ fx);omega)
  have tq:(syms.take (i+1)).map (jg v cl)=(syms.take i).map (jg v cl)++ [jg v cl syms[i]]:=by rw[fP fx,cU];rfl
  have E3:((syms.take i).map (jg v cl)).length≤1000:=by simp;omega
  (refine FB ?_;refine aA ?_;refine zr ?_;refine kh ?_;refine AW.gB [0,1,2,3,4,5,6] [12] rfl (by assumption) aI aI rfl ?_;show a_ .held _ _ _ [_,_,_,_,_,_,_] _ _;refine zV ?_;refine a_.b_ 59 3 4 rfl rfl rfl rfl ?_;refine zb ?_;refine zL ?_;refine uc ?_;refine J4 ?_;intro k_ ja;refine nz ?_;refine AR.fM (i:=7) rfl aI rfl ?_;intro g_ c_ gh;refine zA (hso) ?_;refine J4 ?_;refine AR.fM (i:=8) rfl aI rfl ?_;intro g_ c_ gh;refine x7 ?_;refine NJ ?_;intro g_ c_ gh;(with_reducible apply a_.fJ);exact rfl;exact ah;(iterate 9 exact rfl);exact aa;refine qk ?_;refine AR.iI [10,11] aI aI aI aI ?_;intro g_ c_;show a_ .held _ _ _ [_,_] _ _;refine a_.fe rfl rfl rfl ?_;refine a_.b_ 59 3 4 rfl rfl rfl rfl ?_;refine J4 ?_;intro k_ ja;refine nz ?_;refine FX ?_;intro g_ c_ fk;refine rn ?_;refine AR.JE (by assumption) aI ?_;refine C4 ?_;refine yy ?_)
  exact⟨i+1,by omega,by omega,fy rfl (by(refine⟨.gx (by first|rfl|(rw[tq,cU];rfl)),?_⟩;refine aC ?_;refine⟨.gx (by first|rfl|(rw[tq,cU];rfl)),?_⟩;refine⟨.ia (by first|rfl|(rw[tq,cU];rfl)),?_⟩;(iterate 2 refine aC ?_);refine⟨.ia (by first|rfl|(rw[tq,cU];rfl)),?_⟩;exact trivial)) (by(refine⟨.box _ rfl ?_,?_⟩;refine⟨.gx (by first|rfl|(rw[tq,cU];rfl)),?_⟩;refine⟨.fj (by first|rfl|(rw[tq,cU];rfl)) rfl,?_⟩;refine⟨.gx (by first|rfl|(rw[tq,cU];rfl)),?_⟩;refine⟨.ia (by first|rfl|(rw[tq,cU];rfl)),?_⟩;refine⟨.fj (by first|rfl|(rw[tq,cU];rfl)) rfl,?_⟩;refine⟨.kQ (by first|rfl|(rw[tq,cU];rfl)),?_⟩;exact trivial;(iterate 2 refine aF ?_);refine⟨.box _ rfl ?_,?_⟩;refine⟨.gx (by first|rfl|(rw[tq,cU];rfl)),?_⟩;refine⟨.ia (by first|rfl|(rw[tq,cU];rfl)),?_⟩;(iterate 2 exact trivial))) rfl⟩
 ·rw[iv (l:=syms) aJ]
  have PY:=y5 ⟨v,cl,syms⟩
  have Y5:=(HK ⟨v,cl,syms⟩).symm
  simp only at Y5 PY
  rw[Y5]
  have Kw:jd ⟨v,cl,syms⟩ (iB v cl) l=((jd ⟨v,cl,syms⟩ (iB v cl) (l.drop 0)).1,(jd ⟨v,cl,syms⟩ (iB v cl) (l.drop 0)).2+0):=by rw[List.drop_zero];rfl
  generalize jd ⟨v,cl,syms⟩ (iB v cl) l=R at Kw ⊢
  (refine uB ?_;refine u_ ?_;refine nj ?_)
  clear hi fx
  (refine nz ?_;apply AW.gP [55,54,8,9,2] [4,2] (fun p:Nat×n5=>([(56,e7 p.1)]:List (Nat×AV))) (fun p:Nat×n5=>([(3,some (.box [e7 p.2.vars,.own 2 29 1 (p.2.cl.map fun c=>[ints c]),e7 v,.pv (jm syms),.own 4 4 1 ((pK.valid ⟨v,cl,syms⟩).map oI),fu p.2.ref]))]:List (Nat×Option Ob))) (fun p:Nat×n5=>p.1≤l.length∧nf (1000+wS (l.take p.1)) p.2∧R=((jd ⟨v,cl,syms⟩ p.2 (l.drop p.1)).1,(jd ⟨v,cl,syms⟩ p.2 (l.drop p.1)).2+p.1)) (fun p:Nat×n5=>l.length - p.1) ((0,iB v cl));(conv=>lhs;simp only[Nf.n7,Nf.all,di,reduceAdd,reduceSub]);(all_goals skip))
  ·exact⟨bk _,ln,Kw⟩
  ·exact J7
  rintro⟨i,s⟩ ⟨hi,C5,fw⟩
  simp only at hi C5 fw ⊢
  have Z9:=E_ l i
  by_cases fx:i<l.length
  ·have hL:=hl.2 _ (cZ fx)
   have U0:=C5.hv
   have YR:=C5.f (by omega)
   have H7:=C5.len
   have hw:=oX s.vars l[i].lits (by omega)
   by_cases k1:l[i].kind=1
   ·have Db:j2 (AG qQ) l[i].kind=some (A9 (.func 60)):=by rw[sf,if_pos k1]
    have jc:ig ⟨v,cl,syms⟩ s l[i]=ni s l[i]:=Aj k1
    by_cases c1:l[i].sym=0
    ·cases c2:e_ s.vars l[i].lits with
     |false=>
      rw[c2] at hw
      have oA:=gR fx (by rw[jc,ni,if_neg (by rw[c2];simp)])
      rw[oA] at fw
      rw[fw]
      (refine ly ?_;refine aA ?_;refine J3 ?_;(with_reducible apply a_.inline (hf:=Tryz.func60));(with_reducible assumption);(iterate 10 exact rfl);intro g_ fE fD;refine QI ?_;show a_ .held _ _ _ [_,_,_,_,_,_,_,_,_,_,_] _ _;refine Iu ?_;refine zm ?_;refine PU ?_;refine a_.b_ 65 1 1 rfl rfl rfl rfl ?_;refine zy ?_;refine zb ?_;refine J4 ?_;intro k_ ja;refine nz ?_;refine AR.fM (i:=11) rfl aI rfl ?_;intro g_ c_ gh;refine zy ?_;refine zA (hw) ?_;refine J4 ?_;refine AR.iI [12,13,14,15,16,17,18,19,20] aI aI aI aI ?_;intro g_ c_;show a_ .held _ _ _ [_,_,_,_,_,_,_,_,_] _ _;refine ud ?_;refine zm ?_;(iterate 6 refine a_.gu rfl rfl rfl rfl rfl rfl rfl ?_);refine J4 ?_;intro k_ ja;refine nz ?_;refine AR.fM (i:=21) rfl aI rfl ?_;intro g_ c_ gh;refine CC ?_;refine AR.iI [22,23] aI aI aI aI ?_;intro g_ c_;show a_ .held _ _ _ [_,_] _ _;refine HG ?_;refine J4 ?_;intro k_ ja;refine D_ ?_;(with_reducible apply AW.lD 14 9 12 3);(iterate 3 exact rfl);refine qe ?_)
      (apply e9;(exact gn.two (.tmp rfl rfl) (.tmp rfl rfl));(refine Bc ?_;refine jO.cons ?_ ?_;refine Le.e7 ?_;(first|rfl|simp);exact jO.nil))
     |true=>
      rw[c2] at hw
      have H2:=FG s.vars s.cl l[i].lits YR aJ c2
      cases c3:hU s.vars s.cl l[i].lits with
      |false=>
       rw[c3] at H2
       have oA:=gR fx (by rw[jc,ni,if_neg (by rw[c3];simp)])
       rw[oA] at fw
       rw[fw]
       (refine ly ?_;refine aA ?_;refine J3 ?_;(with_reducible apply a_.inline (hf:=Tryz.func60));(with_reducible assumption);(iterate 10 exact rfl);intro g_ fE fD;refine AL ?_;(with_reducible apply AW.gk);exact rfl;exact rfl;kernel_rfl;(with_reducible assumption);refine Iu ?_;refine zm ?_;refine Pv ?_;(with_reducible apply a_.zZ);(iterate 3 exact rfl);(repeat' first|exact Sub.nil|apply Sub.take|apply Sub.skip);(iterate 3 exact rfl);refine PM ?_;refine BH ?_;(with_reducible apply AW.lD 14 9 12 3);(iterate 3 exact rfl);refine qe ?_)
       (apply e9;(exact gn.two (.tmp rfl rfl) (.tmp rfl rfl));(refine Bc ?_;refine jO.cons ?_ ?_;refine Le.e7 ?_;(first|rfl|simp);exact jO.nil))
      |true=>
       rw[c3] at H2
       have A1:ig ⟨v,cl,syms⟩ s l[i]=some (w9 s l[i].lits):=by rw[jc,ni,if_pos ⟨c1,c2,c3⟩]
       have oA:=qq fx A1
       rw[oA] at fw
       have Gg:=C5.step2 hL A1
       obtain⟨sv,scl,rf⟩:=s
       simp only[w9] at*
       cases rf with
       |true=>
        (refine ly ?_;refine aA ?_;refine J3 ?_;(with_reducible apply a_.inline (hf:=Tryz.func60));(with_reducible assumption);(iterate 10 exact rfl);intro g_ fE fD;refine AL ?_;(with_reducible apply AW.gk);exact rfl;exact rfl;kernel_rfl;(with_reducible assumption);refine Iu ?_;refine zm ?_;refine Pv ?_;(with_reducible apply a_.zZ);(iterate 3 exact rfl);(repeat' first|exact Sub.nil|apply Sub.take|apply Sub.skip);(iterate 3 exact rfl);refine PM ?_;refine C9 ?_;refine a_.fC rfl rfl rfl ?_;refine rA ?_;(with_reducible apply a_.inline (hf:=Tryz.func84));(with_reducible assumption);(iterate 10 exact rfl);intro g_ fE fD;refine MZ ?_;(with_reducible apply a_.fJ);exact rfl;exact ah;(iterate 9 exact rfl);exact aa;refine UU ?_;refine zq ?_;refine kH ?_;refine OG ?_;refine qO ?_;refine pL ?_)
        exact U3
       |false=>
        (refine ly ?_;refine aA ?_;refine J3 ?_;(with_reducible apply a_.inline (hf:=Tryz.func60));(with_reducible assumption);(iterate 10 exact rfl);intro g_ fE fD;refine AL ?_;(with_reducible apply AW.gk);exact rfl;exact rfl;kernel_rfl;(with_reducible assumption);refine Iu ?_;refine zm ?_;refine Pv ?_;(with_reducible apply a_.zZ);(iterate 3 exact rfl);(repeat' first|exact Sub.nil|apply Sub.take|apply Sub.skip);(iterate 3 exact rfl);refine PM ?_;refine C9 ?_;refine a_.fC rfl rfl rfl ?_;refine rA ?_;(with_reducible apply a_.inline (hf:=Tryz.func84));(with_reducible assumption);(iterate 10 exact rfl);intro g_ fE fD;refine MZ ?_;(with_reducible apply a_.fJ);exact rfl;exact ah;(iterate 9 exact rfl);exact aa;refine Wp ?_)
        exact U3
    ·have oA:=gR fx (by rw[jc,ni,if_neg (fun h=>c1 h.1)])
     rw[oA] at fw
     rw[fw]
     (refine ly ?_;refine aA ?_;refine J3 ?_;(with_reducible apply a_.inline (hf:=Tryz.func60));(with_reducible assumption);(iterate 10 exact rfl);intro g_ fE fD;refine QI ?_;show a_ .held _ _ _ [_,_,_,_,_,_,_,_,_,_,_] _ _;refine Iu ?_;refine PX ?_;refine J4 ?_;intro k_ ja;refine nz ?_;refine AR.fM (i:=11) rfl aI rfl ?_;intro g_ c_ gh;refine Lu ?_;refine J4 ?_;refine AR.iI [12,13,14,15,16,17,18,19,20] aI aI aI aI ?_;intro g_ c_;show a_ .held _ _ _ [_,_,_,_,_,_,_,_,_] _ _;refine Lu ?_;refine zT ?_;refine zm ?_;(iterate 6 refine a_.gu rfl rfl rfl rfl rfl rfl rfl ?_);refine J4 ?_;intro k_ ja;refine nz ?_;refine AR.fM (i:=21) rfl aI rfl ?_;intro g_ c_ gh;refine CC ?_;refine AR.iI [22,23] aI aI aI aI ?_;intro g_ c_;show a_ .held _ _ _ [_,_] _ _;refine HG ?_;refine J4 ?_;intro k_ ja;refine D_ ?_;(with_reducible apply AW.lD 14 9 12 3);(iterate 3 exact rfl);refine qe ?_)
     (apply e9;(exact gn.two (.tmp rfl rfl) (.tmp rfl rfl));(refine Bc ?_;refine jO.cons ?_ ?_;refine Le.e7 ?_;(first|rfl|simp);exact jO.nil))
   by_cases k2:l[i].kind=2
   ·have Db:j2 (AG qQ) l[i].kind=some (A9 (.func 61)):=by rw[sf,if_neg k1,if_pos k2]
    have jc:ig ⟨v,cl,syms⟩ s l[i]=lY s l[i]:=Fm k2
    by_cases c1:l[i].sym=0
    ·cases c2:e_ s.vars l[i].lits with
     |false=>
      rw[c2] at hw
      have oA:=gR fx (by rw[jc,lY,if_neg (by rw[c2];simp)])
      rw[oA] at fw
      rw[fw]
      (refine ly ?_;refine aA ?_;refine J3 ?_;(with_reducible apply a_.inline (hf:=Tryz.func61));(with_reducible assumption);(iterate 10 exact rfl);intro g_ fE fD;refine AL ?_;(with_reducible apply AW.gk);exact rfl;exact rfl;kernel_rfl;(with_reducible assumption);refine Iu ?_;refine zm ?_;refine PU ?_;refine HP ?_;refine zA (hw) ?_;refine ud ?_;refine BH ?_;(with_reducible apply AW.lD 14 9 12 3);(iterate 3 exact rfl);refine qe ?_)
      (apply e9;(exact gn.two (.tmp rfl rfl) (.tmp rfl rfl));(refine Bc ?_;refine jO.cons ?_ ?_;refine Le.e7 ?_;(first|rfl|simp);exact jO.nil))
     |true=>
      rw[c2] at hw
      have zE:=mR l[i].lits (by omega)
      (refine ly ?_;refine aA ?_;refine J3 ?_;(with_reducible apply a_.inline (hf:=Tryz.func61));(with_reducible assumption);(iterate 10 exact rfl);intro g_ fE fD;refine AL ?_;(with_reducible apply AW.gk);exact rfl;exact rfl;kernel_rfl;(with_reducible assumption);refine Iu ?_;refine zm ?_;refine PU ?_;refine HP ?_;refine zA (hw) ?_;refine ud ?_;refine C9 ?_;refine rA ?_;refine zP (zE) ?_;refine oy ?_;refine BC ?_;refine lz ?_;refine oF ?_;refine LW ?_;refine zb ?_;refine a_.ng rfl rfl rfl ?_;(with_reducible apply a_.inline (hf:=Tryz.func86));(with_reducible assumption);(iterate 10 exact rfl);intro g_ fE fD;refine nz ?_;refine zq ?_;refine Lj ?_;refine M0 ?_;refine CX ?_)
      (refine nz ?_;apply AW.gP [7,0,1,1029,1028,1027,1026,1025,1024,1005,1015,1014,1013,1012,1009,1008,1004,1000,2073,2072,2071,2070,2069,2068,2015,2014,2012,2013,2056,2055,2054,2008,2009,2002] [7,6,5,3,4,2] (fun j:Nat=>([(8,e7 j)]:List (Nat×AV))) (fun j:Nat=>([]:List (Nat×Option Ob))) (fun j:Nat=>j≤s.cl.length∧(s.cl.take j).any (N7 l[i].lits)=false) (fun j:Nat=>s.cl.length - j) (0);(conv=>lhs;simp only[Nf.n7,Nf.all,di,reduceAdd,reduceSub]);(all_goals skip))
      ·exact⟨bk _,rfl⟩
      ·exact J7
      rintro j ⟨hj,zx⟩
      by_cases nZ:j<s.cl.length
      ·obtain⟨d1,d2⟩:=YR.jq _ (cZ nZ)
       have jy:=mR s.cl[j] (by omega)
       have heq:=qB (canon s.cl[j]) (canon l[i].lits)
       have A4:=sC (p:=N7 l[i].lits) nZ
       rw[zx,cJ] at A4
       by_cases he:canon s.cl[j]=canon l[i].lits
       ·rw[decide_eq_true he] at heq
        have Lp:N7 l[i].lits s.cl[j]=true:=decide_eq_true he
        have A1:ig ⟨v,cl,syms⟩ s l[i]=some ⟨s.vars,s.cl.eraseIdx j,s.ref⟩:=by rw[jc,lY,if_pos ⟨c1,c2,vu nZ Lp⟩,vJ nZ zx Lp]
        have oA:=qq fx A1
        rw[oA] at fw
        have Gg:=C5.step2 hL A1
        (refine Gq ?_;refine au ?_;(with_reducible apply a_.inline (hf:=Tryz.func87));(with_reducible assumption);(iterate 10 exact rfl);intro g_ fE fD;refine nz ?_;refine zq ?_;refine rD ?_;refine AW.gB [0,2] [] rfl (by assumption) aI aI rfl ?_;show a_ .held _ _ _ [_,_] _ _;refine zm ?_;refine zb ?_;refine J4 ?_;intro k_ ja;refine nz ?_;refine AR.fM (i:=1) rfl aI rfl ?_;intro g_ c_ gh;refine zP (jy) ?_;refine J4 ?_;refine AR.fM (i:=3) rfl aI rfl ?_;intro g_ c_ gh;refine zA (heq) ?_;refine J4 ?_;refine AR.iI [4] aI aI aI aI ?_;intro g_ c_;show a_ .held _ _ _ [_] _ _;refine za ?_;refine J4 ?_;intro k_ ja;refine HH ?_;refine GQ ?_;refine xq ?_;refine tN ?_;refine zs ?_;refine C9 ?_;refine zV ?_;refine LW ?_;refine Be ?_;refine zj ?_;(refine a_.W7 j s.cl rfl rfl rfl rfl rfl rfl rfl rfl aJ aJ ?_);(try refine nz ?_);refine a_.fe rfl rfl rfl ?_;refine LW ?_;refine BC ?_;refine lz ?_;refine kH ?_;refine OG ?_;refine qO ?_;refine pL ?_)
        exact⟨(i+1,_),⟨by show i+1≤l.length;omega,by show nf (1000+wS (l.take (i+1))) _;rw[AU fx,← bF];exact Gg,by show _=(_,_+(i+1));rw[fw];simp [bF,Nat.add_comm 1 i]⟩,by show l.length - (i+1)<l.length - i;omega,fy rfl (by(refine⟨.gx (by first|with_reducible rfl|(rfl)),?_⟩;refine⟨.gx (by first|with_reducible rfl|(rfl)),?_⟩;refine⟨.ia (by first|with_reducible rfl|(rfl)),?_⟩;(iterate 2 refine aC ?_);refine⟨.ia (by first|with_reducible rfl|(rfl)),?_⟩;exact trivial)) (by(refine⟨.box _ rfl ?_,?_⟩;refine⟨.gx (by first|with_reducible rfl|(rfl)),?_⟩;refine⟨.fj (by first|with_reducible rfl|(rfl)) rfl,?_⟩;refine⟨.gx (by first|with_reducible rfl|(rfl)),?_⟩;refine⟨.ia (by first|with_reducible rfl|(rfl)),?_⟩;refine⟨.fj (by first|with_reducible rfl|(rfl)) rfl,?_⟩;refine⟨.kQ (by first|with_reducible rfl|(rfl)),?_⟩;exact trivial;(iterate 2 refine aF ?_);exact trivial)) rfl⟩
       ·rw[decide_eq_false he] at heq
        have Lp:N7 l[i].lits s.cl[j]=false:=decide_eq_false he
        rw[Lp] at A4
        (refine Gq ?_;refine au ?_;(with_reducible apply a_.inline (hf:=Tryz.func87));(with_reducible assumption);(iterate 10 exact rfl);intro g_ fE fD;refine nz ?_;refine zq ?_;refine rD ?_;refine AW.gB [0,2] [] rfl (by assumption) aI aI rfl ?_;show a_ .held _ _ _ [_,_] _ _;refine zm ?_;refine zb ?_;refine J4 ?_;intro k_ ja;refine nz ?_;refine AR.fM (i:=1) rfl aI rfl ?_;intro g_ c_ gh;refine zP (jy) ?_;refine J4 ?_;refine AR.fM (i:=3) rfl aI rfl ?_;intro g_ c_ gh;refine zA (heq) ?_;refine J4 ?_;refine AR.iI [4] aI aI aI aI ?_;intro g_ c_;show a_ .held _ _ _ [_] _ _;refine za ?_;refine J4 ?_;intro k_ ja;refine HH ?_;refine xq ?_;refine qO ?_;refine yy ?_)
        exact U_
      ·rw[iv (l:=s.cl) aJ] at zx
       have oA:=gR fx (by rw[jc,lY,if_neg (by rw[zx];simp)])
       rw[oA] at fw
       rw[fw]
       (refine uB ?_;refine oH ?_;refine xq ?_;refine tN ?_;refine zs ?_;refine BH ?_;(with_reducible apply AW.lD 14 9 12 3);(iterate 3 exact rfl);refine qe ?_)
       (apply e9;(exact gn.two (.tmp rfl rfl) (.tmp rfl rfl));(refine Bc ?_;refine jO.cons ?_ ?_;refine Le.e7 ?_;(first|rfl|simp);exact jO.nil))
    ·have oA:=gR fx (by rw[jc,lY,if_neg (fun h=>c1 h.1)])
     rw[oA] at fw
     rw[fw]
     (refine ly ?_;refine aA ?_;refine J3 ?_;(with_reducible apply a_.inline (hf:=Tryz.func61));(with_reducible assumption);(iterate 10 exact rfl);intro g_ fE fD;refine QI ?_;show a_ .held _ _ _ [_,_,_,_,_,_,_,_,_,_,_] _ _;refine Iu ?_;refine PX ?_;refine J4 ?_;intro k_ ja;refine nz ?_;refine AR.fM (i:=11) rfl aI rfl ?_;intro g_ c_ gh;refine Lu ?_;refine J4 ?_;refine OZ ?_;intro g_ c_;show a_ .held _ _ _ [_,_] _ _;refine Lu ?_;refine zT ?_;refine J4 ?_;intro k_ ja;refine D_ ?_;(with_reducible apply AW.lD 14 9 12 3);(iterate 3 exact rfl);refine qe ?_)
     (apply e9;(exact gn.two (.tmp rfl rfl) (.tmp rfl rfl));(refine Bc ?_;refine jO.cons ?_ ?_;refine Le.e7 ?_;(first|rfl|simp);exact jO.nil))
   by_cases k3:l[i].kind=3
   ·have Db:j2 (AG qQ) l[i].kind=some (A9 (.func 62)):=by rw[sf,if_neg k1,if_neg k2,if_pos k3]
    have jc:ig ⟨v,cl,syms⟩ s l[i]=kK s l[i]:=FN k3
    have OF:=oX s.vars (l[i].lits.drop 1) (by omega)
    have A2:(l[i].lits.drop 1).length=l[i].lits.length - 1:=List.length_drop
    by_cases d1:l[i].sym=0
    ·by_cases d2:2≤l[i].lits.length
     ·have d2':¬(l[i].lits.length:Int)<2:=by omega
      have h0:l[i].lits.getD 0 0=l[i].lits[0]:=by rw[c8,a8 aJ];rfl
      by_cases d3:l[i].lits[0]=s.vars+1
      ·have d3':l[i].lits[(0:Int).toNat]'(by simp;omega)=s.vars+1:=d3
       by_cases d4:l[i].lits[0]≤20000
       ·have d4':l[i].lits[(0:Int).toNat]'(by simp;omega)≤20000:=d4
        cases d5:e_ s.vars (l[i].lits.drop 1) with
        |false=>
         rw[d5] at OF
         have oA:=gR fx (by rw[jc,kK,if_neg (by rintro⟨_,_,_,_,h⟩;rw[d5] at h;cases h)])
         rw[oA] at fw
         rw[fw]
         (refine ly ?_;refine aA ?_;refine J3 ?_;(with_reducible apply a_.inline (hf:=Tryz.func62));(with_reducible assumption);(iterate 10 exact rfl);intro g_ fE fD;refine AL ?_;(with_reducible apply AW.gk);exact rfl;exact rfl;kernel_rfl;(with_reducible assumption);refine IK ?_;refine ay ?_;refine I9 ?_;refine kO ?_;refine HP ?_;refine ay ?_;refine zy ?_;refine zr ?_;refine F6 ?_;refine zm ?_;refine PU ?_;refine HP ?_;refine a_.tG rfl rfl rfl rfl rfl rfl rfl aJ aJ ?_;refine zy ?_;refine zA (OF) ?_;refine ud ?_;refine BH ?_;(with_reducible apply AW.lD 14 9 12 3);(iterate 3 exact rfl);refine qe ?_)
         (apply e9;(exact gn.two (.tmp rfl rfl) (.tmp rfl rfl));(refine Bc ?_;refine jO.cons ?_ ?_;refine Le.e7 ?_;(first|rfl|simp);exact jO.nil))
        |true=>
         rw[d5] at OF
         have A1:ig ⟨v,cl,syms⟩ s l[i]=some ⟨s.vars+1,s.cl++defs l[i].lits[0] (l[i].lits.drop 1),s.ref⟩:=by rw[jc,kK,if_pos ⟨d1,d2,by rw[h0];exact d3,by rw[h0];exact d4,d5⟩,h0]
         have oA:=qq fx A1
         rw[oA] at fw
         have Gg:=C5.step2 hL A1
         obtain⟨sv,scl,rf⟩:=s
         simp only at*
         cases rf with
         |true=>
          have Xf:(l[i].lits.drop (1:Int).toNat).length=l[i].lits.length - 1:=A2
          have d5':e_ sv (l[i].lits.drop (1:Int).toNat)=true:=d5
          (refine ly ?_;refine aA ?_;refine J3 ?_;(with_reducible apply a_.inline (hf:=Tryz.func62));(with_reducible assumption);(iterate 10 exact rfl);intro g_ fE fD;refine AL ?_;(with_reducible apply AW.gk);exact rfl;exact rfl;kernel_rfl;(with_reducible assumption);refine IK ?_;refine ay ?_;refine I9 ?_;refine kO ?_;refine HP ?_;refine ay ?_;refine zy ?_;refine zr ?_;refine F6 ?_;refine zm ?_;refine Tx ?_;refine lz ?_;refine rA ?_;refine ay ?_;refine Uz ?_)
          (refine nz ?_;apply AW.gP [66,65,64,63,61,60,59,58,57,56,55,54,15,14,13,12,9,8,4,3,0,1073,1072,1071,1070,1069,1068,1015,1014,1012,1013,1056,1055,1054,1008,1009,1002] [6,5,4,2] (fun j:Nat=>([(67,e7 j),(5,.own 7 3 1 ((l[i].lits[0]::((l[i].lits.drop (1:Int).toNat).take j).map fun x=> -x).map encI))]:List (Nat×AV))) (fun j:Nat=>([(3,some (.box [e7 (sv+1),.own 2 29 1 ((scl++((l[i].lits.drop (1:Int).toNat).take j).map fun x=>[-l[i].lits[0],x]).map fun c=>[ints c]),e7 v,.pv (jm syms),.own 4 4 1 ((pK.valid ⟨v,cl,syms⟩).map oI),fu true])),(7,some .row)]:List (Nat×Option Ob))) (fun j:Nat=>j≤(l[i].lits.drop (1:Int).toNat).length) (fun j:Nat=>(l[i].lits.drop (1:Int).toNat).length - j) (0);(conv=>lhs;simp only[Nf.n7,Nf.all,di,reduceAdd,reduceSub]);(all_goals skip))
          ·exact bk _
          ·exact J6
          rintro j hj
          have Lo:((l[i].lits.drop (1:Int).toNat).take j).length≤900:=by rw[dI];omega
          by_cases nZ:j<(l[i].lits.drop (1:Int).toNat).length
          ·have Nq:=fI d5' _ (cZ nZ)
           have tq:=fP nZ
           have jM:(l[i].lits[0]::((l[i].lits.drop (1:Int).toNat).take (j+1)).map fun x=> -x).map encI=(l[i].lits[0]::((l[i].lits.drop (1:Int).toNat).take j).map fun x=> -x).map encI++ [encI (-(l[i].lits.drop (1:Int).toNat)[j])]:=by rw[tq];simp
           have jr:((scl++((l[i].lits.drop (1:Int).toNat).take (j+1)).map fun x=>[-l[i].lits[0],x]).map fun c=>[ints c])=((scl++((l[i].lits.drop (1:Int).toNat).take j).map fun x=>[-l[i].lits[0],x]).map fun c=>[ints c])++ [[ints [-l[i].lits[0],(l[i].lits.drop (1:Int).toNat)[j]]]]:=by rw[tq];simp
           (refine FB ?_;refine aA ?_;refine zr ?_;refine xv ?_;refine a_.fC rfl rfl rfl ?_;refine rA ?_;refine ay ?_;refine zr ?_;refine a_.neg rfl rfl rfl aJ ?_;refine zm ?_;refine HB ?_;refine nz ?_;(with_reducible apply a_.inline (hf:=Tryz.func84));(with_reducible assumption);(iterate 10 exact rfl);intro g_ fE fD;refine MR ?_;(with_reducible apply a_.fJ);exact rfl;exact ah;(iterate 9 exact rfl);exact aa;refine UU ?_;refine AW.region ?_;refine xY ?_;refine a_.neg rfl rfl rfl aJ ?_;refine x7 ?_;(with_reducible apply a_.fJ);exact rfl;exact ah;(iterate 9 exact rfl);exact aa;refine nz ?_;refine BK ?_;refine pL ?_)
           exact J8
          ·rw[iv (l:=l[i].lits.drop (1:Int).toNat) aJ]
           have kz:(l[i].lits[0]::(l[i].lits.drop (1:Int).toNat).map fun x=> -x).length=(l[i].lits.drop (1:Int).toNat).length+1:=by simp
           (refine uB ?_;refine mF ?_;refine a_.fC rfl rfl rfl ?_;refine a_.gg rfl rfl rfl ?_;(with_reducible apply a_.inline (hf:=Tryz.func84));(with_reducible assumption);(iterate 10 exact rfl);intro g_ fE fD;refine MR ?_;(with_reducible apply a_.fJ);exact rfl;exact ah;(iterate 9 exact rfl);exact aa;refine UU ?_;refine zq ?_;refine kH ?_;refine OG ?_;refine qO ?_;refine pL ?_)
           exact YG
         |false=>
          have Xf:(l[i].lits.drop (1:Int).toNat).length=l[i].lits.length - 1:=A2
          have d5':e_ sv (l[i].lits.drop (1:Int).toNat)=true:=d5
          (refine ly ?_;refine aA ?_;refine J3 ?_;(with_reducible apply a_.inline (hf:=Tryz.func62));(with_reducible assumption);(iterate 10 exact rfl);intro g_ fE fD;refine AL ?_;(with_reducible apply AW.gk);exact rfl;exact rfl;kernel_rfl;(with_reducible assumption);refine IK ?_;refine ay ?_;refine I9 ?_;refine kO ?_;refine HP ?_;refine ay ?_;refine zy ?_;refine zr ?_;refine F6 ?_;refine zm ?_;refine Tx ?_;refine lz ?_;refine rA ?_;refine ay ?_;refine Uz ?_)
          (refine nz ?_;apply AW.gP [66,65,64,63,61,60,59,58,57,56,55,54,15,14,13,12,9,8,4,3,0,1073,1072,1071,1070,1069,1068,1015,1014,1012,1013,1056,1055,1054,1008,1009,1002] [6,5,4,2] (fun j:Nat=>([(67,e7 j),(5,.own 7 3 1 ((l[i].lits[0]::((l[i].lits.drop (1:Int).toNat).take j).map fun x=> -x).map encI))]:List (Nat×AV))) (fun j:Nat=>([(3,some (.box [e7 (sv+1),.own 2 29 1 ((scl++((l[i].lits.drop (1:Int).toNat).take j).map fun x=>[-l[i].lits[0],x]).map fun c=>[ints c]),e7 v,.pv (jm syms),.own 4 4 1 ((pK.valid ⟨v,cl,syms⟩).map oI),fu false])),(7,some .row)]:List (Nat×Option Ob))) (fun j:Nat=>j≤(l[i].lits.drop (1:Int).toNat).length) (fun j:Nat=>(l[i].lits.drop (1:Int).toNat).length - j) (0);(conv=>lhs;simp only[Nf.n7,Nf.all,di,reduceAdd,reduceSub]);(all_goals skip))
          ·exact bk _
          ·exact J6
          rintro j hj
          have Lo:((l[i].lits.drop (1:Int).toNat).take j).length≤900:=by rw[dI];omega
          by_cases nZ:j<(l[i].lits.drop (1:Int).toNat).length
          ·have Nq:=fI d5' _ (cZ nZ)
           have tq:=fP nZ
           have jM:(l[i].lits[0]::((l[i].lits.drop (1:Int).toNat).take (j+1)).map fun x=> -x).map encI=(l[i].lits[0]::((l[i].lits.drop (1:Int).toNat).take j).map fun x=> -x).map encI++ [encI (-(l[i].lits.drop (1:Int).toNat)[j])]:=by rw[tq];simp
           have jr:((scl++((l[i].lits.drop (1:Int).toNat).take (j+1)).map fun x=>[-l[i].lits[0],x]).map fun c=>[ints c])=((scl++((l[i].lits.drop (1:Int).toNat).take j).map fun x=>[-l[i].lits[0],x]).map fun c=>[ints c])++ [[ints [-l[i].lits[0],(l[i].lits.drop (1:Int).toNat)[j]]]]:=by rw[tq];simp
           (refine FB ?_;refine aA ?_;refine zr ?_;refine xv ?_;refine a_.fC rfl rfl rfl ?_;refine rA ?_;refine ay ?_;refine zr ?_;refine a_.neg rfl rfl rfl aJ ?_;refine zm ?_;refine HB ?_;refine nz ?_;(with_reducible apply a_.inline (hf:=Tryz.func84));(with_reducible assumption);(iterate 10 exact rfl);intro g_ fE fD;refine MR ?_;(with_reducible apply a_.fJ);exact rfl;exact ah;(iterate 9 exact rfl);exact aa;refine nz ?_;refine a_.fe rfl rfl rfl ?_;refine LW ?_;refine BC ?_;refine zd ?_;refine AW.region ?_;refine zV ?_;refine a_.b_ 59 4 5 rfl rfl rfl rfl ?_;refine iL ?_;refine zl ?_;refine kv ?_;refine a_.len rfl rfl rfl rfl ?_;refine zl ?_;refine a_.eql rfl rfl rfl rfl rfl ?_;refine a_.iy rfl rfl rfl rfl rfl rfl ?_;refine a_.fe rfl rfl rfl ?_;refine a_.b_ 59 4 5 rfl rfl rfl rfl ?_;refine BC ?_;refine a_.nil ?_;refine jT ?_;refine nz ?_;refine zd ?_;refine AW.region ?_;refine xY ?_;refine a_.neg rfl rfl rfl aJ ?_;refine x7 ?_;(with_reducible apply a_.fJ);exact rfl;exact ah;(iterate 9 exact rfl);exact aa;refine nz ?_;refine BK ?_;refine pL ?_)
           exact J8
          ·rw[iv (l:=l[i].lits.drop (1:Int).toNat) aJ]
           have kz:(l[i].lits[0]::(l[i].lits.drop (1:Int).toNat).map fun x=> -x).length=(l[i].lits.drop (1:Int).toNat).length+1:=by simp
           (refine uB ?_;refine mF ?_;refine a_.fC rfl rfl rfl ?_;refine a_.gg rfl rfl rfl ?_;(with_reducible apply a_.inline (hf:=Tryz.func84));(with_reducible assumption);(iterate 10 exact rfl);intro g_ fE fD;refine MR ?_;(with_reducible apply a_.fJ);exact rfl;exact ah;(iterate 9 exact rfl);exact aa;refine Wp ?_)
           exact YG
       ·have d4':¬l[i].lits[(0:Int).toNat]'(by simp;omega)≤20000:=d4
        have oA:=gR fx (by rw[jc,kK,if_neg (by rintro⟨_,_,_,h,_⟩;rw[h0] at h;exact d4 h)])
        rw[oA] at fw
        rw[fw]
        (refine ly ?_;refine aA ?_;refine J3 ?_;(with_reducible apply a_.inline (hf:=Tryz.func62));(with_reducible assumption);(iterate 10 exact rfl);intro g_ fE fD;refine nz ?_;refine U9 ?_;show a_ .held _ _ _ [_,_,_,_,_,_,_,_,_,_,_,_,_,_,_,_,_,_,_,_,_,_,_,_,_,_,_,_,_,_,_,_,_,_,_,_,_,_] _ _;refine IK ?_;refine ay ?_;refine I9 ?_;refine kO ?_;refine HP ?_;refine ay ?_;refine zy ?_;refine zr ?_;refine F6 ?_;refine zm ?_;(iterate 8 refine a_.jR rfl rfl rfl rfl rfl rfl (by first|omega|decide) ?_);refine J4 ?_;intro k_ ja;refine NC ?_;intro g_ c_ gh;refine a_.jR rfl rfl rfl rfl rfl rfl (by first|omega|decide) ?_;refine J4 ?_;refine Ng ?_;intro g_ c_;show a_ .held _ _ _ [_,_] _ _;refine a_.jR rfl rfl rfl rfl rfl rfl (by first|omega|decide) ?_;refine zT ?_;refine J4 ?_;intro k_ ja;refine D_ ?_;(with_reducible apply AW.lD 14 9 12 3);(iterate 3 exact rfl);refine qe ?_)
        (apply e9;(exact gn.two (.tmp rfl rfl) (.tmp rfl rfl));(refine Bc ?_;refine jO.cons ?_ ?_;refine Le.e7 ?_;(first|rfl|simp);exact jO.nil))
      ·have d3':¬l[i].lits[(0:Int).toNat]'(by simp;omega)=s.vars+1:=d3
       have oA:=gR fx (by rw[jc,kK,if_neg (by rintro⟨_,_,h,_⟩;rw[h0] at h;exact d3 h)])
       rw[oA] at fw
       rw[fw]
       (refine ly ?_;refine aA ?_;refine J3 ?_;(with_reducible apply a_.inline (hf:=Tryz.func62));(with_reducible assumption);(iterate 10 exact rfl);intro g_ fE fD;refine nz ?_;refine U9 ?_;show a_ .held _ _ _ [_,_,_,_,_,_,_,_,_,_,_,_,_,_,_,_,_,_,_,_,_,_,_,_,_,_,_,_,_,_,_,_,_,_,_,_,_,_] _ _;refine IK ?_;refine ay ?_;refine I9 ?_;refine zm ?_;(iterate 5 refine a_.jR rfl rfl rfl rfl rfl rfl (by with_reducible assumption) ?_);refine zT ?_;refine zm ?_;(iterate 8 refine a_.gu rfl rfl rfl rfl rfl rfl rfl ?_);refine J4 ?_;intro k_ ja;refine NC ?_;intro g_ c_ gh;refine CC ?_;refine Ng ?_;intro g_ c_;show a_ .held _ _ _ [_,_] _ _;refine HG ?_;refine J4 ?_;intro k_ ja;refine D_ ?_;(with_reducible apply AW.lD 14 9 12 3);(iterate 3 exact rfl);refine qe ?_)
       (apply e9;(exact gn.two (.tmp rfl rfl) (.tmp rfl rfl));(refine Bc ?_;refine jO.cons ?_ ?_;refine Le.e7 ?_;(first|rfl|simp);exact jO.nil))
     ·have d2':(l[i].lits.length:Int)<2:=by omega
      have oA:=gR fx (by rw[jc,kK,if_neg (by rintro⟨_,h,_⟩;exact d2 h)])
      rw[oA] at fw
      rw[fw]
      (refine ly ?_;refine aA ?_;refine J3 ?_;(with_reducible apply a_.inline (hf:=Tryz.func62));(with_reducible assumption);(iterate 10 exact rfl);intro g_ fE fD;refine nz ?_;refine U9 ?_;show a_ .held _ _ _ [_,_,_,_,_,_,_,_,_,_,_,_,_,_,_,_,_,_,_,_,_,_,_,_,_,_,_,_,_,_,_,_,_,_,_,_,_,_] _ _;refine Iu ?_;refine kO ?_;refine HP ?_;refine zn ?_;refine zy ?_;refine zs ?_;refine zF ?_;refine zm ?_;(iterate 11 refine a_.jR rfl rfl rfl rfl rfl rfl (by with_reducible assumption) ?_);refine zT ?_;refine zm ?_;(iterate 5 refine a_.gu rfl rfl rfl rfl rfl rfl rfl ?_);refine Dv ?_;(iterate 8 refine a_.gu rfl rfl rfl rfl rfl rfl rfl ?_);refine J4 ?_;intro k_ ja;refine NC ?_;intro g_ c_ gh;refine CC ?_;refine Ng ?_;intro g_ c_;show a_ .held _ _ _ [_,_] _ _;refine HG ?_;refine J4 ?_;intro k_ ja;refine D_ ?_;(with_reducible apply AW.lD 14 9 12 3);(iterate 3 exact rfl);refine qe ?_)
      (apply e9;(exact gn.two (.tmp rfl rfl) (.tmp rfl rfl));(refine Bc ?_;refine jO.cons ?_ ?_;refine Le.e7 ?_;(first|rfl|simp);exact jO.nil))
    ·have oA:=gR fx (by rw[jc,kK,if_neg (fun h=>d1 h.1)])
     rw[oA] at fw
     rw[fw]
     (refine ly ?_;refine aA ?_;refine J3 ?_;(with_reducible apply a_.inline (hf:=Tryz.func62));(with_reducible assumption);(iterate 10 exact rfl);intro g_ fE fD;refine nz ?_;refine U9 ?_;show a_ .held _ _ _ [_,_,_,_,_,_,_,_,_,_,_,_,_,_,_,_,_,_,_,_,_,_,_,_,_,_,_,_,_,_,_,_,_,_,_,_,_,_] _ _;refine Iu ?_;refine zm ?_;refine Ms ?_;refine zm ?_;(iterate 11 refine a_.gu rfl rfl rfl rfl rfl rfl rfl ?_);refine Dv ?_;(iterate 5 refine a_.gu rfl rfl rfl rfl rfl rfl rfl ?_);refine Dv ?_;(iterate 8 refine a_.gu rfl rfl rfl rfl rfl rfl rfl ?_);refine J4 ?_;intro k_ ja;refine NC ?_;intro g_ c_ gh;refine CC ?_;refine Ng ?_;intro g_ c_;show a_ .held _ _ _ [_,_] _ _;refine HG ?_;refine J4 ?_;intro k_ ja;refine D_ ?_;(with_reducible apply AW.lD 14 9 12 3);(iterate 3 exact rfl);refine qe ?_)
     (apply e9;(exact gn.two (.tmp rfl rfl) (.tmp rfl rfl));(refine Bc ?_;refine jO.cons ?_ ?_;refine Le.e7 ?_;(first|rfl|simp);exact jO.nil))
   by_cases k4:l[i].kind=4
   ·have Db:j2 (AG qQ) l[i].kind=some (A9 (.func 63)):=by rw[sf,if_neg k1,if_neg k2,if_neg k3,if_pos k4]
    have jc:ig ⟨v,cl,syms⟩ s l[i]=pj ⟨v,cl,syms⟩ s l[i]:=Fj k4
    cases c2:e_ s.vars l[i].lits with
    |false=>
     rw[c2] at hw
     have oA:=gR fx (by rw[jc,pj,if_neg (by rw[c2];simp)])
     rw[oA] at fw
     rw[fw]
     (refine ly ?_;refine aA ?_;refine J3 ?_;(with_reducible apply a_.inline (hf:=Tryz.func63));(with_reducible assumption);(iterate 10 exact rfl);intro g_ fE fD;refine JA ?_;(with_reducible apply AW.gk);exact rfl;exact rfl;kernel_rfl;(with_reducible assumption);refine zb ?_;refine Ui ?_;refine zm ?_;refine JG ?_;refine Dv ?_;(iterate 8 refine a_.gu rfl rfl rfl rfl rfl rfl rfl ?_);refine Dv ?_;(iterate 9 refine a_.gu rfl rfl rfl rfl rfl rfl rfl ?_);refine a_.iM rfl rfl rfl rfl rfl rfl ?_;refine BH ?_;(with_reducible apply AW.lD 14 9 12 3);(iterate 3 exact rfl);refine qe ?_)
     (apply e9;(exact gn.two (.tmp rfl rfl) (.tmp rfl rfl));(refine Bc ?_;refine jO.cons ?_ ?_;refine Le.e7 ?_;(first|rfl|simp);exact jO.nil))
    |true=>
     rw[c2] at hw
     by_cases m1:0≤l[i].sym
     ·by_cases m2:l[i].sym<syms.length
      ·have mt:l[i].sym.toNat<syms.length:=by omega
       have Oz:syms.getD l[i].sym.toNat []=syms[l[i].sym.toNat]:=by rw[c8,a8 mt];rfl
       have UY:(pK.valid ⟨v,cl,syms⟩)[l[i].sym.toNat]'(by rw[PY];exact mt)=jg v cl syms[l[i].sym.toNat]:=J_ ⟨v,cl,syms⟩ mt
       cases m3:jg v cl syms[l[i].sym.toNat] with
       |false=>
        rw[m3] at UY
        have oA:=gR fx (e:=⟨v,cl,syms⟩) (s:=s) (by rw[jc,pj,if_neg (by rw[Oz,m3];simp)])
        rw[oA] at fw
        rw[fw]
        have NX:(!(pK.valid ⟨v,cl,syms⟩)[l[i].sym.toNat]'(by rw[PY];exact mt))=true:=by rw[UY];rfl
        (refine ly ?_;refine aA ?_;refine J3 ?_;(with_reducible apply a_.inline (hf:=Tryz.func63));(with_reducible assumption);(iterate 10 exact rfl);intro g_ fE fD;refine JA ?_;(with_reducible apply AW.gk);exact rfl;exact rfl;kernel_rfl;(with_reducible assumption);refine SQ ?_;refine au ?_;refine ud ?_;refine zd ?_;refine AW.DL rfl rfl (by assumption) ?_;refine mF ?_;refine xL ?_;refine OG ?_;refine yW ?_;(with_reducible apply AW.lD 14 9 12 3);(iterate 3 exact rfl);refine qe ?_)
        (apply e9;(exact gn.two (.tmp rfl rfl) (.tmp rfl rfl));(refine Bc ?_;refine jO.cons ?_ ?_;refine Le.e7 ?_;(first|rfl|simp);exact jO.nil))
       |true=>
        rw[m3] at UY
        have NX:(!(pK.valid ⟨v,cl,syms⟩)[l[i].sym.toNat]'(by rw[PY];exact mt))=false:=by rw[UY];rfl
        have zE:=mR l[i].lits (by omega)
        (refine ly ?_;refine aA ?_;refine J3 ?_;(with_reducible apply a_.inline (hf:=Tryz.func63));(with_reducible assumption);(iterate 10 exact rfl);intro g_ fE fD;refine JA ?_;(with_reducible apply AW.gk);exact rfl;exact rfl;kernel_rfl;(with_reducible assumption);refine SQ ?_;refine au ?_;refine ud ?_;refine zd ?_;refine AW.y_ rfl rfl (by assumption) ?_;refine FA ?_;refine zo ?_;refine AW.gB [0,1,2,3,4,5,6,7,8,9] [13] rfl (by assumption) aI aI rfl ?_;show a_ .held _ _ _ [_,_,_,_,_,_,_,_,_,_] _ _;refine zb ?_;refine a_.fe rfl rfl rfl ?_;refine a_.b_ 59 2 3 rfl rfl rfl rfl ?_;refine zb ?_;refine a_.b_ 65 2 2 rfl rfl rfl rfl ?_;refine zb ?_;refine ay ?_;refine zr ?_;refine rA ?_;refine J4 ?_;intro k_ ja;refine nz ?_;apply AR.cut [9,8,7,6,5,4,3,2,1,0,10,11,12];intro nA;apply AR.cut [9,8,7,6,5,4,3,2,1,0,10,12];intro qK;apply AR.cut [9,8,7,6,5,4,3,2,1,0,11,12];intro pP;apply AR.cut [9,8,7,6,5,4,3,2,1,0,10,11];intro tB;(refine AR.ua (i:=10) (j:=11) (m:=12) rfl aI rfl rfl rfl ?_ ?_ ?_<;>intro g_ c_ gh);refine zP (zE) ?_;refine J4 ?_;(refine AR.gX (i:=11) (j:=12) rfl aI rfl rfl ?_ ?_<;>intro g_ c_ gh);refine oy ?_;refine vh ?_;refine u0 ?_;exact AR.perm aI tB;refine oy ?_;refine vh ?_;exact HE;refine oy ?_;refine J4 ?_;(refine AR.gX (i:=10) (j:=12) rfl aI rfl rfl ?_ ?_<;>intro g_ c_ gh);refine zP (zE) ?_;refine vh ?_;refine AR.meet tB aI (fun g_=>fy rfl ?_ ?_ rfl);(iterate 79 refine aC ?_);exact trivial;exact U2;refine oy ?_;refine vh ?_;refine u0 ?_;exact AR.perm aI pP;refine oy ?_;refine J4 ?_;(refine AR.gX (i:=10) (j:=11) rfl aI rfl rfl ?_ ?_<;>intro g_ c_ gh);refine zP (zE) ?_;refine vh ?_;refine AR.meet qK aI (fun g_=>fy rfl ?_ ?_ rfl);(iterate 79 refine aC ?_);exact trivial;exact U2;refine oy ?_;refine vh ?_;refine AR.sw 8 9 (by assumption) aI aI ?_;refine GH ?_;refine AR.meet pP aI (fun g_=>fy rfl ?_ ?_ rfl);(iterate 79 refine aC ?_);exact trivial;refine⟨.box _ rfl ?_,?_⟩;exact vw;exact U2;refine AR.fM (i:=12) rfl aI rfl ?_;intro g_ c_ gh;refine oy ?_;refine vh ?_;exact x8;refine AR.fM (i:=10) rfl aI rfl ?_;intro g_ c_ gh;refine zP (zE) ?_;refine vh ?_;exact Sw;refine AR.fM (i:=11) rfl aI rfl ?_;intro g_ c_ gh;refine oy ?_;refine vh ?_;refine AR.sw 8 9 (by assumption) aI aI ?_;refine GH ?_;exact Sw;refine xR ?_;intro g_ c_ fk;refine rn ?_;refine vi ?_;intro g_ c_ fk;refine rn ?_;refine Hj ?_;refine CI ?_;refine zb ?_;refine a_.fe rfl rfl rfl ?_;refine LW ?_;refine zb ?_;refine a_.Em rfl rfl rfl rfl rfl rfl rfl ?_;(with_reducible apply a_.inline (hf:=Tryz.func65));(with_reducible assumption);(iterate 10 exact rfl);intro g_ fE fD;refine nz ?_;refine sK ?_;refine a_.gg rfl rfl rfl ?_;refine a_.jA rfl rfl rfl ?_;(with_reducible apply a_.inline (hf:=Tryz.func86));(with_reducible assumption);(iterate 10 exact rfl);intro g_ fE fD;refine nz ?_;refine zq ?_;refine Lj ?_;refine M0 ?_;refine CX ?_)
        obtain⟨y1,y2⟩:=nJ m3
        have VF:=tZ hf.hv y2
        have hsyl:=HT.2 _ (cZ mt)
        (refine nz ?_;apply AW.gP [7,0,1,1006,1005,1004,1000,1001,2058,2057,2056,2055,2054,2053,2006,2005,2015,2014,2013,2012,2009,2008,2004,2003,2002,3073,3072,3071,3070,3069,3068,3015,3014,3012,3013,3056,3055,3054,3008,3009,3002] [9,8,7,6,5,3,4,2] (fun j:Nat=>([(8,e7 j)]:List (Nat×AV))) (fun j:Nat=>([]:List (Nat×Option Ob))) (fun j:Nat=>j≤s.cl.length∧(s.cl.take j).any (lM v syms[l[i].sym.toNat] l[i].lits)=false) (fun j:Nat=>s.cl.length - j) (0);(conv=>lhs;simp only[Nf.n7,Nf.all,di,reduceAdd,reduceSub]);(all_goals skip))
        ·exact⟨bk _,rfl⟩
        ·exact J7
        rintro j ⟨hj,zx⟩
        by_cases nZ:j<s.cl.length
        ·obtain⟨q1,q2⟩:=C5.jq _ (cZ nZ)
         have WD:=oX v s.cl[j] (by omega)
         have A4:=sC (p:=lM v syms[l[i].sym.toNat] l[i].lits) nZ
         rw[zx,cJ] at A4
         cases e1:e_ v s.cl[j] with
         |false=>
          rw[e1] at WD
          have Lp:lM v syms[l[i].sym.toNat] l[i].lits s.cl[j]=false:=by unfold lM;rw[e1];rfl
          rw[Lp] at A4
          (refine Gq ?_;refine au ?_;(with_reducible apply a_.inline (hf:=Tryz.func89));(with_reducible assumption);(iterate 10 exact rfl);intro g_ fE fD;refine nz ?_;refine LX ?_;show a_ .held _ _ _ [_,_,_,_,_] _ _;refine zb ?_;refine LY ?_;intro k_ ja;refine L6 ?_;intro g_ c_ gh;refine Nb ?_;intro g_ c_;show a_ .held _ _ _ [_,_,_,_] _ _;refine zm ?_;refine JG ?_;refine J4 ?_;intro k_ ja;refine Mh ?_;intro g_ c_ gh;refine CC ?_;refine AR.fM (i:=10) rfl aI rfl ?_;intro g_ c_ gh;refine CC ?_;refine AR.fM (i:=12) rfl aI rfl ?_;intro g_ c_ gh;refine CC ?_;refine AR.iI [13,14] aI aI aI aI ?_;intro g_ c_;show a_ .held _ _ _ [_,_] _ _;refine a_.iy rfl rfl rfl rfl rfl rfl ?_;refine za ?_;refine J4 ?_;intro k_ ja;refine HH ?_;refine xq ?_;refine qO ?_;refine yy ?_)
          exact U_
         |true=>
          rw[e1] at WD
          have H2:=BM syms[l[i].sym.toNat] s.cl[j] VF aJ aJ (by rw[y1];exact e1)
          have uq:=CA syms[l[i].sym.toNat] s.cl[j]
          have hni:=mR (mN syms[l[i].sym.toNat] s.cl[j]) (by omega)
          have heq:=qB (canon (mN syms[l[i].sym.toNat] s.cl[j])) (canon l[i].lits)
          by_cases he:canon (mN syms[l[i].sym.toNat] s.cl[j])=canon l[i].lits
          ·rw[decide_eq_true he] at heq
           have Lp:lM v syms[l[i].sym.toNat] l[i].lits s.cl[j]=true:=by unfold lM;rw[e1,decide_eq_true he];rfl
           have A1:ig ⟨v,cl,syms⟩ s l[i]=some (w9 s l[i].lits):=by rw[jc,pj,if_pos ⟨c2,⟨m1,m2⟩,by rw[Oz];exact m3,by rw[Oz];exact vu nZ Lp⟩]
           have oA:=qq fx A1
           rw[oA] at fw
           have Gg:=C5.step2 hL A1
           obtain⟨sv,scl,rf⟩:=s
           simp only[w9] at*
           have hlj':j<scl.length:=nZ
           cases rf with
           |true=>
            (refine Gq ?_;refine au ?_;(with_reducible apply a_.inline (hf:=Tryz.func89));(with_reducible assumption);(iterate 10 exact rfl);intro g_ fE fD;refine nz ?_;refine LX ?_;show a_ .held _ _ _ [_,_,_,_,_] _ _;refine zb ?_;refine LY ?_;intro k_ ja;refine L6 ?_;intro g_ c_ gh;refine Nb ?_;intro g_ c_;show a_ .held _ _ _ [_,_,_,_] _ _;refine kv ?_;refine zb ?_;refine zl ?_;refine kv ?_;refine zb ?_;refine J4 ?_;intro k_ ja;refine Mh ?_;intro g_ c_ gh;refine Pe ?_;intro g_ c_ gh;refine Ps ?_;intro g_ c_ gh;refine Qk ?_;intro g_ c_;show a_ .held _ _ _ [_,_] _ _;refine a_.iM rfl rfl rfl rfl rfl rfl ?_;refine za ?_;refine J4 ?_;intro k_ ja;refine HH ?_;refine GQ ?_;refine Me ?_;refine C9 ?_;refine zb ?_;refine rA ?_;(with_reducible apply a_.inline (hf:=Tryz.func84));(with_reducible assumption);(iterate 10 exact rfl);intro g_ fE fD;refine MZ ?_;(with_reducible apply a_.fJ);exact rfl;exact ah;(iterate 9 exact rfl);exact aa;refine UU ?_;refine zq ?_;refine kH ?_;refine OG ?_;refine qO ?_;refine pL ?_)
            exact U3
           |false=>
            (refine Gq ?_;refine au ?_;(with_reducible apply a_.inline (hf:=Tryz.func89));(with_reducible assumption);(iterate 10 exact rfl);intro g_ fE fD;refine nz ?_;refine LX ?_;show a_ .held _ _ _ [_,_,_,_,_] _ _;refine zb ?_;refine LY ?_;intro k_ ja;refine L6 ?_;intro g_ c_ gh;refine Nb ?_;intro g_ c_;show a_ .held _ _ _ [_,_,_,_] _ _;refine kv ?_;refine zb ?_;refine zl ?_;refine kv ?_;refine zb ?_;refine J4 ?_;intro k_ ja;refine Mh ?_;intro g_ c_ gh;refine Pe ?_;intro g_ c_ gh;refine Ps ?_;intro g_ c_ gh;refine Qk ?_;intro g_ c_;show a_ .held _ _ _ [_,_] _ _;refine a_.iM rfl rfl rfl rfl rfl rfl ?_;refine za ?_;refine J4 ?_;intro k_ ja;refine HH ?_;refine GQ ?_;refine Me ?_;refine C9 ?_;refine zb ?_;refine rA ?_;(with_reducible apply a_.inline (hf:=Tryz.func84));(with_reducible assumption);(iterate 10 exact rfl);intro g_ fE fD;refine MZ ?_;(with_reducible apply a_.fJ);exact rfl;exact ah;(iterate 9 exact rfl);exact aa;refine Wp ?_)
            exact U3
          ·rw[decide_eq_false he] at heq
           have Lp:lM v syms[l[i].sym.toNat] l[i].lits s.cl[j]=false:=by unfold lM;rw[e1,decide_eq_false he];rfl
           rw[Lp] at A4
           (refine Gq ?_;refine au ?_;(with_reducible apply a_.inline (hf:=Tryz.func89));(with_reducible assumption);(iterate 10 exact rfl);intro g_ fE fD;refine nz ?_;refine LX ?_;show a_ .held _ _ _ [_,_,_,_,_] _ _;refine zb ?_;refine LY ?_;intro k_ ja;refine L6 ?_;intro g_ c_ gh;refine Nb ?_;intro g_ c_;show a_ .held _ _ _ [_,_,_,_] _ _;refine kv ?_;refine zb ?_;refine zl ?_;refine kv ?_;refine zb ?_;refine J4 ?_;intro k_ ja;refine Mh ?_;intro g_ c_ gh;refine Pe ?_;intro g_ c_ gh;refine Ps ?_;intro g_ c_ gh;refine Qk ?_;intro g_ c_;show a_ .held _ _ _ [_,_] _ _;refine a_.iM rfl rfl rfl rfl rfl rfl ?_;refine za ?_;refine J4 ?_;intro k_ ja;refine HH ?_;refine xq ?_;refine qO ?_;refine yy ?_)
           exact U_
        ·rw[iv (l:=s.cl) aJ] at zx
         have oA:=gR fx (by rw[jc,pj,if_neg (by rw[Oz,zx];simp)])
         rw[oA] at fw
         rw[fw]
         (refine uB ?_;refine oH ?_;refine Me ?_;refine BH ?_;(with_reducible apply AW.lD 14 9 12 3);(iterate 3 exact rfl);refine qe ?_)
         (apply e9;(exact gn.two (.tmp rfl rfl) (.tmp rfl rfl));(refine Bc ?_;refine jO.cons ?_ ?_;refine Le.e7 ?_;(first|rfl|simp);exact jO.nil))
      ·have oA:=gR fx (by rw[jc,pj,if_neg (by rintro⟨_,⟨_,h⟩,_⟩;exact m2 h)])
       rw[oA] at fw
       rw[fw]
       (refine ly ?_;refine aA ?_;refine J3 ?_;(with_reducible apply a_.inline (hf:=Tryz.func63));(with_reducible assumption);(iterate 10 exact rfl);intro g_ fE fD;refine JA ?_;(with_reducible apply AW.gk);exact rfl;exact rfl;kernel_rfl;(with_reducible assumption);refine Yy ?_;(iterate 9 refine a_.jR rfl rfl rfl rfl rfl rfl (by first|omega|decide) ?_);refine zT ?_;refine BH ?_;(with_reducible apply AW.lD 14 9 12 3);(iterate 3 exact rfl);refine qe ?_)
       (apply e9;(exact gn.two (.tmp rfl rfl) (.tmp rfl rfl));(refine Bc ?_;refine jO.cons ?_ ?_;refine Le.e7 ?_;(first|rfl|simp);exact jO.nil))
     ·have oA:=gR fx (by rw[jc,pj,if_neg (by rintro⟨_,⟨h,_⟩,_⟩;exact m1 h)])
      rw[oA] at fw
      rw[fw]
      (refine ly ?_;refine aA ?_;refine J3 ?_;(with_reducible apply a_.inline (hf:=Tryz.func63));(with_reducible assumption);(iterate 10 exact rfl);intro g_ fE fD;refine JA ?_;(with_reducible apply AW.gk);exact rfl;exact rfl;kernel_rfl;(with_reducible assumption);refine zb ?_;refine Ui ?_;refine kv ?_;refine a_.b_ 65 2 2 rfl rfl rfl rfl ?_;refine DD ?_;refine zs ?_;refine a_.iy rfl rfl rfl rfl rfl rfl ?_;refine zm ?_;(iterate 8 refine a_.jR rfl rfl rfl rfl rfl rfl (by first|omega|decide) ?_);refine zT ?_;refine zm ?_;(iterate 9 refine a_.gu rfl rfl rfl rfl rfl rfl rfl ?_);refine a_.iM rfl rfl rfl rfl rfl rfl ?_;refine BH ?_;(with_reducible apply AW.lD 14 9 12 3);(iterate 3 exact rfl);refine qe ?_)
      (apply e9;(exact gn.two (.tmp rfl rfl) (.tmp rfl rfl));(refine Bc ?_;refine jO.cons ?_ ?_;refine Le.e7 ?_;(first|rfl|simp);exact jO.nil))
   have Db:j2 (AG qQ) l[i].kind=none:=by rw[sf,if_neg k1,if_neg k2,if_neg k3,if_neg k4]
   have oA:=gR fx (Ft (e:=⟨v,cl,syms⟩) (s:=s) k1 k2 k3 k4)
   rw[oA] at fw
   rw[fw]
   (refine ly ?_;refine aA ?_;refine a_.qt rfl rfl rfl rfl ?_;refine nz ?_;refine oy ?_;refine za ?_;refine zB ?_;refine nz ?_;refine lz ?_;refine zm ?_;refine a_.b_ 65 0 0 rfl rfl rfl rfl ?_;refine zb ?_;refine a_.Dm rfl rfl rfl rfl rfl rfl rfl rfl (by with_reducible assumption) ?_;refine Iv ?_;refine lj ?_;refine pZ ?_;refine a_.not rfl rfl rfl ?_;refine zm ?_;(iterate 5 refine a_.gu rfl rfl rfl rfl rfl rfl rfl ?_);refine Bk ?_;(with_reducible apply AW.lD 14 9 12 3);(iterate 3 exact rfl);refine qe ?_)
   (apply e9;(exact gn.two (.tmp rfl rfl) (.tmp rfl rfl));(refine Bc ?_;refine jO.cons ?_ ?_;refine Le.e7 ?_;(first|rfl|simp);exact jO.nil))
  ·rw[List.drop_eq_nil_of_le aJ,wQ] at fw
   have hie:i=l.length:=by omega
   have Y0:R.1.ref=s.ref:=by rw[fw]
   have Zj:R.2=l.length:=by rw[fw,hie];simp
   rw[Y0,Zj]
   (refine uB ?_;(with_reducible apply AW.lD 16 9 2 3);(iterate 3 exact rfl);(try refine nz ?_);refine zq ?_;refine a_.tt rfl rfl rfl ?_;refine zm ?_;refine zn ?_;refine a_.l7 rfl rfl rfl ?_;refine kH ?_)
   (apply e9;(exact gn.two (.tmp rfl rfl) (.tmp rfl rfl));(refine Bc ?_;refine jO.cons ?_ ?_;refine Le.e7 ?_;(rfl);exact jO.nil))
end Go.Ab
