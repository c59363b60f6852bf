/- Chapter 23: the checker's run. -/
import Derived.Test.YtigjjjpcjnifhaaGreatAuC3
import Derived.Test.YtigjjjpcjnifhaaGreatAbZ
import Derived.Test.YtigjjjpcjnifhaaGreatAbL3
import Derived.Test.YtigjjjpcjnifhaaGreatAuU5
set_option linter.unusedSimpArgs false
set_option linter.unusedVariables false
namespace Go.Ab
open Go Go.Proofs
open Nat (reduceAdd reduceSub)
set_option maxRecDepth 20000
set_option maxHeartbeats 8000000
attribute [local irreducible] AW aa bE aX AR bd aW bm bD canon hU eI iX kb gE ay df cr
theorem xO (l:List (List Int)) (hl:l.length≤1000000):Jl Tryz.prog 73 [.pv (cV l)] 25 1 (l.map fun c=>[ints c]):=by
 refine Jl.enter (n:=8) Tryz.func73 rfl rfl rfl rfl rfl (by decide) fun g aU aT=>?_;(try refine nz ?_)
 by_cases h0:l=[]
 ·subst h0
  have e0:([]:List (List Int)).length=0:=rfl
  (refine j9 ?_;refine zm ?_;(focus ((with_reducible apply aa.qO);(iterate 6 exact rfl);all_goals intro jW));refine e6 ?_;refine iM ?_;(all_goals skip);rotate_left;refine Gq ?_;refine zm ?_;(with_reducible apply aa.bh);exact rfl;(first|exact .pv rfl|exact .own rfl|exact .nil rfl);(iterate 9 exact rfl);(first|omega|(simp only[List.length_map,List.length_append,List.length_cons,List.length_nil,List.length_drop,List.length_take,List.length_set,List.length_range,aL];omega));refine nz ?_;refine nN ?_;(all_goals skip);rotate_left)
  all_goals ((first|(refine fk (bA.one (.tmp rfl rfl)) ?_)|(refine fk (bA.one (.cell1 rfl rfl rfl rfl)) ?_)|(refine kQ (bA.one (.tmp rfl rfl)) ?_));(first|rfl|simp))
 ·have e0:0<l.length:=List.length_pos_iff.2 h0
  have e1:¬(l.map fun c=>[ints c])=[]:=by simpa using h0
  clear h0
  (refine j9 ?_;refine zm ?_;(focus ((with_reducible apply aa.qO);(iterate 6 exact rfl);all_goals intro jW));refine e6 ?_;refine iM ?_;(all_goals skip);rotate_left;refine Gq ?_;refine zm ?_;(with_reducible apply aa.bh);exact rfl;(first|exact .pv rfl|exact .own rfl|exact .nil rfl);(iterate 9 exact rfl);(first|omega|(simp only[List.length_map,List.length_append,List.length_cons,List.length_nil,List.length_drop,List.length_take,List.length_set,List.length_range,aL];omega));refine nz ?_;refine nN ?_;(all_goals skip);rotate_left)
  ·exact absurd jW e1
  ·((first|(refine fk (bA.one (.tmp rfl rfl)) ?_)|(refine fk (bA.one (.cell1 rfl rfl rfl rfl)) ?_)|(refine kQ (bA.one (.tmp rfl rfl)) ?_));(first|rfl|simp))
theorem E1 (cl:List (List Int)) (hl:cl.length≤1000000):Fn Tryz.prog 74 [.pv (cV cl),.clo (.func 75) [] []] (aF (cl.any fun c=>decide ((c.length:Int)=0))):=by
 refine Fn.enter (n:=9) Tryz.func74 rfl rfl rfl rfl rfl (by decide) fun g aU aT=>?_;(try refine nz ?_)
 (refine l7 ?_;refine zm ?_;refine aa.dM rfl rfl rfl ?_;(with_reducible apply aa.inline (hf:=Tryz.func97));(with_reducible assumption);(iterate 10 exact rfl);intro g_ aU aT;refine Ba ?_)
 (refine nz ?_;apply AW.bM [7,0,1,1006,1005,1004,1000,1001] [] (fun k:Nat=>([(8,al k)]:List (Nat×AV))) (fun k:Nat=>([]:List (Nat×Option Ob))) (fun k:Nat=>k≤cl.length∧(cl.take k).any (fun c=>decide ((c.length:Int)=0))=false) (fun k:Nat=>cl.length - k) (0);(conv=>lhs;simp only[Nf.gQ,Nf.all,Nat.reduceBEq,reduceAdd,reduceSub]);(all_goals skip))
 ·exact⟨Nat.zero_le _,rfl⟩
 ·exact aO rfl (by(refine⟨.eq rfl rfl,?_⟩;(iterate 8 refine⟨.eq rfl rfl,?_⟩);exact trivial)) (by(exact trivial)) rfl
 rintro k ⟨hk,tA⟩
 by_cases aM:k<cl.length
 ·have uH:=mH (p:=fun c:List Int=>decide ((c.length:Int)=0)) aM
  rw[tA,Bool.false_or] at uH
  by_cases he:(cl[k].length:Int)=0
  ·rw[pd (p:=fun c:List Int=>decide ((c.length:Int)=0)) aM (decide_eq_true he)]
   (refine qW ?_;(focus ((with_reducible apply aa.aj);(iterate 7 exact rfl);rotate_left;omega));refine zr ?_;(with_reducible apply aa.inline (hf:=Tryz.func75));(with_reducible assumption);(iterate 10 exact rfl);intro g_ aU aT;refine mR ?_;refine zn ?_;refine aa.eql rfl rfl rfl rfl rfl ?_;refine iq ?_;refine zd ?_;refine zc ?_;refine zq ?_;refine zm ?_;refine Ck ?_;refine nz ?_;refine aa.geq rfl rfl rfl rfl rfl ?_;refine fL ?_)
   (apply ax;(exact bA.one (.tmp rfl rfl));(refine Le.aF ?_;(first|rfl|exact decide_eq_true (by omega))))
  ·rw[decide_eq_false he] at uH
   (refine qW ?_;(focus ((with_reducible apply aa.aj);(iterate 7 exact rfl);rotate_left;omega));refine zr ?_;(with_reducible apply aa.inline (hf:=Tryz.func75));(with_reducible assumption);(iterate 10 exact rfl);intro g_ aU aT;refine mR ?_;refine zn ?_;refine aa.eql rfl rfl rfl rfl rfl ?_;refine iq ?_;refine zd ?_;refine rL ?_;refine jB ?_)
   exact⟨k+1,⟨by omega,uH⟩,by omega,aO rfl (by(refine⟨.eq rfl rfl,?_⟩;(iterate 8 refine⟨.eq rfl rfl,?_⟩);exact trivial)) (by(exact trivial)) rfl⟩
 ·rw[bK (l:=cl) (by omega)] at tA
  rw[tA]
  (refine kO ?_;refine iq ?_;refine aa.geq rfl rfl rfl rfl rfl ?_;refine fL ?_)
  (apply ax;(exact bA.one (.tmp rfl rfl));(refine Le.aF ?_;(first|rfl|exact decide_eq_false (by omega))))
theorem sN (e:kj):e.valid.length=e.syms.length:=by unfold kj.valid;simp
theorem D8 (e:kj) {k:Nat} (h:k<e.syms.length):e.valid[k]'(by rw[sN];exact h)=df e.v0 e.cl0 e.syms[k]:=by simp [kj.valid]
theorem zi (e:kj):e.valid=e.syms.map (df e.v0 e.cl0):=rfl
theorem yO {e:kj} {s:iT} {t:bT} (h:t.kind=2):cC e s t=ga s t:=by unfold cC;rw[if_neg (by omega),if_pos h]
theorem yn {e:kj} {s:iT} {t:bT} (h:t.kind=3):cC e s t=e9 s t:=by unfold cC;rw[if_neg (by omega),if_neg (by omega),if_pos h]
theorem yN {e:kj} {s:iT} {t:bT} (h:t.kind=4):cC e s t=jU e s t:=by unfold cC;rw[if_neg (by omega),if_neg (by omega),if_neg (by omega),if_pos h]
theorem yE {e:kj} {s:iT} {t:bT} (h1:¬t.kind=1) (h2:¬t.kind=2) (h3:¬t.kind=3) (h4:¬t.kind=4):cC e s t=none:=by unfold cC;rw[if_neg h1,if_neg h2,if_neg h3,if_neg h4]
theorem qw (e:kj) (s:iT):dc e s []=(s,0):=by unfold dc;rfl
theorem pX {α:Type} {p:α→Bool}:∀{l:List α} {j:Nat} (hj:j<l.length),(l.take j).any p=false→p l[j]=true→l.findIdx p=j
 |[],j,hj,_,_=>by simp at hj
 |x::l,0,hj,_,h=>by simp at h;simp [List.findIdx_cons,h]
 |x::l,j+1,hj,h1,h2=>by
  simp only[List.take_succ_cons,List.any_cons,Bool.or_eq_false_iff] at h1
  have:=pX (l:=l) (by simpa using hj) h1.2 (by simpa using h2)
  simp [List.findIdx_cons,h1.1,this]
theorem s9 {e:kj} {s:iT} {t:bT} (h:t.kind=1):cC e s t=hY s t:=by unfold cC;rw[if_pos h]
theorem aa.Pj (j:Nat) (l:List (List Int)) {g:au} {δ:DS} {ops:Array Oper} {rest:List Oper} {Q:Exit→DS→Prop} {dst:Option Nat} {ty:TypeId} {pos:String} {af:Array Edge} {x y z:Operand} {tys:Array TypeId} {r:Nat} {e:TypeId} {m:Int}
  (hx:δ.ev x=.own r e 1 (l.map fun c=>[ints c])) (hy:δ.ev y=al (j:Nat)) (hz:δ.ev z=al m) (hr:δ.ob r=some .row) (ho:aK x=true) (ho':aK y=true) (kF:aK z=true) (hd:bn δ.n dst=true) (hm:m=(j:Int)+1) (hi:j<l.length)
  (hK:aa .plain Tryz.prog g ops rest Q ((δ.cw (AV.kill r)).aw dst (.own r e 1 ((l.eraseIdx j).map fun c=>[ints c])))):
  aa .plain Tryz.prog g ops (⟨dst,.call {callee:=.value (.func 100),args:= #[x,y,z],argTypes:=tys},ty,pos,af,none⟩::rest) Q δ:=aa.IX Li hx hy hz hr ho ho' kF hd hm hi hK
theorem AW.fK (id t u i:Nat) {P:Program} {g:au} {δ:DS} {Q:Exit→DS→Prop} {b:Bool} {l:Array Oper} {p:PV} {c0 c1 c2 c3 c4:AV} {rf:Bool} (h:δ.get t=.ptr i 0) (hu:δ.get u=.pv p) (hb:δ.ob i=some (.box [c0,c1,c2,c3,c4,aF rf]))
  {cc:Code} (hK:AW P g ((Code.region id l b).seq cc) Q {n:=δ.n,env:=[(t,.rptr [.any,.any,.any,.any,.any,.lit (.bool rf)]),(u,.pv p)],objs:=[],nx:=δ.nx}):AW P g ((Code.region id l b).seq cc) Q δ:=
 AW.aO (δ':={n:=δ.n,env:=[(t,.rptr [.any,.any,.any,.any,.any,.lit (.bool rf)]),(u,.pv p)],objs:=[],nx:=δ.nx}) (Go.Ab.aO rfl ⟨by rw[h];exact .fbox hb rfl (.cons (.any _) (.cons (.any _) (.cons (.any _) (.cons (.any _) (.cons (.any _) (.cons (.pv _) .nil)))))),by rw[hu];exact .eq rfl rfl,trivial⟩ trivial rfl) hK
def lH:List (Int×Go.Fn):=[(1,.func 69),(2,.func 70),(3,.func 71),(4,.func 72)]
theorem mO (k:Int):eb (tK lH) k=if k=1 then some (um (.func 69)) else if k=2 then some (um (.func 70)) else if k=3 then some (um (.func 71)) else if k=4 then some (um (.func 72)) else none:=rfl
theorem ER:some (Ob.mp (eg ([]++ [(1,um (.func 69))]++ [(2,um (.func 70))]++ [(3,um (.func 71))]++ [(4,um (.func 72))])))=some (Ob.mp (eg (tK lH))):=rfl
theorem iF {v:Int} {cl:List (List Int)} {sy:List Int} (h:df v cl sy=true):(sy.length:Int)=v∧ay v sy=true:=by
 unfold df at h
 simp only[Bool.and_eq_true,decide_eq_true_eq] at h
 exact⟨h.1.1.1,h.1.1.2⟩
attribute [local irreducible] tK DT lH dc cC kj.valid
theorem D1 (v:Int) (cl:List (List Int)) (syms:List (List Int)) (l:List bT) (hs0:ic 1000 (cM v cl)) (Bi:syms.length≤1000∧∀c∈syms,c.length≤1000) (hl:wS l≤900000∧∀t∈l,t.lits.length≤900):
  Fn Tryz.prog 34 [w6 v cl,.pv (cV syms),.pv (steps l)] (.tup [.rptr [.any,.any,.any,.any,.any,.lit (.bool (dc ⟨v,cl,syms⟩ (cM v cl) l).1.ref)],al ((dc ⟨v,cl,syms⟩ (cM v cl) l).2:Nat)]):=by
 have hf:KE v cl:=hs0.f (by omega)
 have CF:cl.length≤1000:=hs0.len
 have hv0:0≤v∧v≤20000:=hs0.hv
 have hlen:=Cm l
 have JR:=xO cl (by omega)
 have ha0:=E1 cl (by omega)
 have O5:cM v cl=⟨v,cl,cl.any fun c=>decide ((c.length:Int)=0)⟩:=rfl
 refine Fn.enter (n:=83) Tryz.func34 rfl rfl rfl rfl rfl (by decide) fun g aU aT=>?_;(try refine nz ?_)
 (refine C0 ?_;refine nz ?_;refine lx ?_;refine d_ ?_;refine aa.makeMap (t:=108) rfl ?_;refine nz ?_;refine E6 ?_;refine nz ?_;refine E6 ?_;refine nz ?_;refine E6 ?_;refine nz ?_;refine E6 ?_;refine nz ?_;refine aa.Bb rfl rfl rfl ?_;refine aa.u6 rfl rfl rfl ?_;refine zd ?_;refine zo ?_;refine AW.bN [0,1,2,3,6,7,8] [] rfl (by assumption) (by kernel_rfl) (by kernel_rfl) rfl ?_;show aa .held _ _ _ [_,_,_,_,_,_,_] _ _;refine oJ ?_;refine rh ?_;refine oJ ?_;refine zm ?_;refine Q4 ?_;intro k_ cR;refine nz ?_;refine AR.ba (i:=4) rfl (by kernel_rfl) rfl ?_;intro g_ ag bw;(with_reducible apply aa.GX (JR));(repeat (first|exact .nil|(refine .cons rfl ?_ ?_;(first|exact .pv _|exact .own _ _ _ _ rfl|exact .nil _|exact .any _|exact .rptr _|(refine .mb ?_;repeat (first|exact .nil|(refine .cons ?_ ?_;(first|exact .pv _|exact .own _ _ _ _ rfl|exact .nil _))))))));exact rfl;refine fN ?_;refine AR.free 5 (by kernel_rfl) rfl rfl rfl (bq.build 24 [0,1] rfl rfl rfl rfl rfl rfl rfl rfl) ?_;(try refine nz ?_);refine AR.free 9 (by kernel_rfl) rfl rfl rfl (bq.build 73 [0,2,3] rfl rfl rfl rfl rfl rfl rfl rfl) ?_;(try refine nz ?_);refine AR.ba (i:=10) rfl (by kernel_rfl) rfl ?_;intro g_ ag bw;refine aa.box rfl rfl rfl rfl ?_;refine fN ?_;refine AR.c9 [11] (by kernel_rfl) (by kernel_rfl) (by kernel_rfl) (by kernel_rfl) ?_;intro g_ ag;show aa .held _ _ _ [_] _ _;refine aa.jx rfl rfl rfl ?_;refine Q4 ?_;intro k_ cR;refine nz ?_;refine Bm ?_;refine rV ?_;refine rh ?_;(refine aa.Kk ha0 (.cons rfl (.pv _) .nil) rfl rfl (fun h=>by cases h) ?_);(try refine nz ?_);refine Ms ?_;refine zd ?_;refine zo ?_;refine zq ?_;refine l8 ?_)
 refine AW.aO (δ':={n:=83,env:=[(8,.pv (.mp (DT lH))),(37,al 0),(36,al syms.length),(35,.pv (cV syms)),(9,.ptr 3 0),(3,.ptr 0 0),(2,.pv (steps l))],objs:=[(3,some (.box [al v,.own 2 25 1 (cl.map fun c=>[ints c]),al v,.pv (cV syms),.pv (.lit (.slice none 0 0)),aF (cl.any fun c=>decide ((c.length:Int)=0))])),(2,some .row),(0,some (.box [al v,.pv (cV cl)]))],nx:=4}) (Go.Ab.aO rfl ⟨.fns (l:=lH) ER rfl,.eq rfl rfl,.eq rfl rfl,.eq rfl rfl,.eq rfl rfl,.eq rfl rfl,.eq rfl rfl,trivial⟩ ⟨.box _ rfl ⟨.eq rfl rfl,.eq rfl rfl,.eq rfl rfl,.eq rfl rfl,.eq rfl rfl,.eq rfl rfl,trivial⟩,.row rfl,.box _ rfl ⟨.eq rfl rfl,.eq rfl rfl,trivial⟩,trivial⟩ rfl) ?_
 (apply AW.bM [8,36,35,9,3,2] [2,0] (fun i:Nat=>([(37,al i)]:List (Nat×AV))) (fun i:Nat=>([(3,some (.box [al v,.own 2 25 1 (cl.map fun c=>[ints c]),al v,.pv (cV syms),.own 4 4 1 (((syms.take i).map (df v cl)).map hX),aF (cl.any fun c=>decide ((c.length:Int)=0))])),(4,some .row)]:List (Nat×Option Ob))) (fun i:Nat=>i≤syms.length) (fun i:Nat=>syms.length - i) (0);(conv=>lhs;simp only[Nf.gQ,Nf.all,Nat.reduceBEq,reduceAdd,reduceSub]);(all_goals skip))
 ·exact Nat.zero_le _
 ·exact Q7
 rintro i hi
 by_cases aM:i<syms.length
 ·have Sg:=BO v cl syms[i] hf (by have:=Bi.2 _ (List.getElem_mem aM);omega)
  have qz:(syms.take (i+1)).map (df v cl)=(syms.take i).map (df v cl)++ [df v cl syms[i]]:=by rw[aR aM,List.map_append];rfl
  have Aa:((syms.take i).map (df v cl)).length≤1000:=by simp;omega
  (refine Bt ?_;(focus ((with_reducible apply aa.aj);(iterate 7 exact rfl);rotate_left;omega));refine zr ?_;refine eO ?_;refine AW.bN [0,1,2,3,4,5,6] [12] rfl (by assumption) (by kernel_rfl) (by kernel_rfl) rfl ?_;show aa .held _ _ _ [_,_,_,_,_,_,_] _ _;refine yd ?_;refine aa.ah 73 3 4 rfl rfl rfl rfl ?_;refine zb ?_;refine zL ?_;refine nz ?_;refine zm ?_;refine Q4 ?_;intro k_ cR;refine nz ?_;refine AR.ba (i:=7) rfl (by kernel_rfl) rfl ?_;intro g_ ag bw;refine zA (Sg) ?_;refine Q4 ?_;refine AR.ba (i:=8) rfl (by kernel_rfl) rfl ?_;intro g_ ag bw;refine pb ?_;refine FM ?_;intro g_ ag bw;(with_reducible apply aa.bh);exact rfl;(first|exact .pv rfl|exact .own rfl|exact .nil rfl);(iterate 9 exact rfl);(first|omega|(simp only[List.length_map,List.length_append,List.length_cons,List.length_nil,List.length_drop,List.length_take,List.length_set,List.length_range,aL];omega));refine fN ?_;refine AR.c9 [10,11] (by kernel_rfl) (by kernel_rfl) (by kernel_rfl) (by kernel_rfl) ?_;intro g_ ag;show aa .held _ _ _ [_,_] _ _;refine aa.aI rfl rfl rfl ?_;refine aa.ah 73 3 4 rfl rfl rfl rfl ?_;refine Q4 ?_;intro k_ cR;refine nz ?_;refine mI ?_;intro g_ ag aJ;refine lZ ?_;refine AR.B5 (by assumption) (by kernel_rfl) ?_;refine jB ?_)
  exact⟨i+1,by omega,by omega,aO rfl (by(refine⟨.bJ (by first|rfl|(rw[qz,List.map_append];rfl)),?_⟩;refine⟨.eq rfl rfl,?_⟩;refine⟨.bJ (by first|rfl|(rw[qz,List.map_append];rfl)),?_⟩;refine⟨.bF (by first|rfl|(rw[qz,List.map_append];rfl)),?_⟩;(iterate 2 refine⟨.eq rfl rfl,?_⟩);refine⟨.bF (by first|rfl|(rw[qz,List.map_append];rfl)),?_⟩;exact trivial)) (by(refine⟨.box _ rfl ?_,?_⟩;refine⟨.bJ (by first|rfl|(rw[qz,List.map_append];rfl)),?_⟩;refine⟨.ak (by first|rfl|(rw[qz,List.map_append];rfl)) rfl,?_⟩;refine⟨.bJ (by first|rfl|(rw[qz,List.map_append];rfl)),?_⟩;refine⟨.bF (by first|rfl|(rw[qz,List.map_append];rfl)),?_⟩;refine⟨.ak (by first|rfl|(rw[qz,List.map_append];rfl)) rfl,?_⟩;refine⟨.fj (by first|rfl|(rw[qz,List.map_append];rfl)),?_⟩;exact trivial;(iterate 2 refine⟨.row rfl,?_⟩);refine⟨.box _ rfl ?_,?_⟩;refine⟨.bJ (by first|rfl|(rw[qz,List.map_append];rfl)),?_⟩;refine⟨.bF (by first|rfl|(rw[qz,List.map_append];rfl)),?_⟩;(iterate 2 exact trivial))) rfl⟩
 ·rw[bK (l:=syms) (by omega)]
  have HP:=sN ⟨v,cl,syms⟩
  have Qe:=(zi ⟨v,cl,syms⟩).symm
  simp only at Qe HP
  rw[Qe]
  have hr0:dc ⟨v,cl,syms⟩ (cM v cl) l=((dc ⟨v,cl,syms⟩ (cM v cl) (l.drop 0)).1,(dc ⟨v,cl,syms⟩ (cM v cl) (l.drop 0)).2+0):=by rw[List.drop_zero];rfl
  generalize dc ⟨v,cl,syms⟩ (cM v cl) l=R at hr0 ⊢
  (refine zq ?_;refine yg ?_;refine jJ ?_;refine l8 ?_)
  clear hi aM
  (refine nz ?_;apply AW.bM [55,54,8,9,2] [4,2] (fun p:Nat×iT=>([(56,al p.1)]:List (Nat×AV))) (fun p:Nat×iT=>([(3,some (.box [al p.2.vars,.own 2 25 1 (p.2.cl.map fun c=>[ints c]),al v,.pv (cV syms),.own 4 4 1 ((kj.valid ⟨v,cl,syms⟩).map hX),aF p.2.ref]))]:List (Nat×Option Ob))) (fun p:Nat×iT=>p.1≤l.length∧ic (1000+wS (l.take p.1)) p.2∧R=((dc ⟨v,cl,syms⟩ p.2 (l.drop p.1)).1,(dc ⟨v,cl,syms⟩ p.2 (l.drop p.1)).2+p.1)) (fun p:Nat×iT=>l.length - p.1) ((0,cM v cl));(conv=>lhs;simp only[Nf.gQ,Nf.all,Nat.reduceBEq,reduceAdd,reduceSub]);(all_goals skip))
  ·exact⟨Nat.zero_le _,hs0,hr0⟩
  ·exact Q7
  rintro⟨i,s⟩ ⟨hi,wb,aV⟩
  simp only at hi wb aV ⊢
  have St:=yW l i
  by_cases aM:i<l.length
  ·have hL:=hl.2 _ (List.getElem_mem aM)
   have MU:=wb.hv
   have MY:=wb.f (by omega)
   have G6:=wb.len
   have hw:=jR s.vars l[i].lits (by omega)
   by_cases k1:l[i].kind=1
   ·have wh:eb (tK lH) l[i].kind=some (um (.func 69)):=by rw[mO,if_pos k1]
    have de:cC ⟨v,cl,syms⟩ s l[i]=hY s l[i]:=s9 k1
    by_cases c1:l[i].sym=0
    ·cases c2:ay s.vars l[i].lits with
     |false=>
      rw[c2] at hw
      have jc:=cj aM (by rw[de,hY,if_neg (by rw[c2];simp)])
      rw[jc] at aV
      rw[aV]
      (refine fB ?_;(focus ((with_reducible apply aa.aj);(iterate 7 exact rfl);rotate_left;omega));refine Q3 ?_;(with_reducible apply aa.inline (hf:=Tryz.func69));(with_reducible assumption);(iterate 10 exact rfl);intro g_ aU aT;refine IM ?_;show aa .held _ _ _ [_,_,_,_,_,_,_,_,_,_,_] _ _;refine FQ ?_;refine JY ?_;refine aa.ah 44 1 1 rfl rfl rfl rfl ?_;refine zy ?_;refine zb ?_;refine Q4 ?_;intro k_ cR;refine nz ?_;refine AR.ba (i:=11) rfl (by kernel_rfl) rfl ?_;intro g_ ag bw;refine zy ?_;refine zA (hw) ?_;refine Q4 ?_;refine AR.c9 [12,13,14,15,16,17,18,19,20] (by kernel_rfl) (by kernel_rfl) (by kernel_rfl) (by kernel_rfl) ?_;intro g_ ag;show aa .held _ _ _ [_,_,_,_,_,_,_,_,_] _ _;refine Aq ?_;refine zm ?_;(iterate 6 refine aa.bY rfl rfl rfl rfl rfl rfl rfl ?_);refine Q4 ?_;intro k_ cR;refine nz ?_;refine AR.ba (i:=21) rfl (by kernel_rfl) rfl ?_;intro g_ ag bw;refine vz ?_;refine AR.c9 [22,23] (by kernel_rfl) (by kernel_rfl) (by kernel_rfl) (by kernel_rfl) ?_;intro g_ ag;show aa .held _ _ _ [_,_] _ _;refine AD ?_;refine Q4 ?_;intro k_ cR;refine xP ?_;(with_reducible apply AW.fK 14 9 12 3);(iterate 3 exact rfl);refine kE ?_)
      (apply ax;(exact bA.two (.tmp rfl rfl) (.tmp rfl rfl));(refine uj ?_;refine fH.cons ?_ ?_;refine Le.al ?_;(first|rfl|simp);exact fH.nil))
     |true=>
      rw[c2] at hw
      have Br:=yD s.vars s.cl l[i].lits MY (by omega) c2
      cases c3:cr s.vars s.cl l[i].lits with
      |false=>
       rw[c3] at Br
       have jc:=cj aM (by rw[de,hY,if_neg (by rw[c3];simp)])
       rw[jc] at aV
       rw[aV]
       (refine fB ?_;(focus ((with_reducible apply aa.aj);(iterate 7 exact rfl);rotate_left;omega));refine Q3 ?_;(with_reducible apply aa.inline (hf:=Tryz.func69));(with_reducible assumption);(iterate 10 exact rfl);intro g_ aU aT;refine uf ?_;(with_reducible apply AW.bu);exact rfl;exact rfl;kernel_rfl;(with_reducible assumption);refine HO ?_;(with_reducible apply aa.ti);(iterate 3 exact rfl);(repeat' first|exact Sub.nil|apply Sub.take|apply Sub.skip);(iterate 3 exact rfl);refine Jb ?_;refine e6 ?_;refine Eh ?_;(with_reducible apply AW.fK 14 9 12 3);(iterate 3 exact rfl);refine kE ?_)
       (apply ax;(exact bA.two (.tmp rfl rfl) (.tmp rfl rfl));(refine uj ?_;refine fH.cons ?_ ?_;refine Le.al ?_;(first|rfl|simp);exact fH.nil))
      |true=>
       rw[c3] at Br
       have xS:cC ⟨v,cl,syms⟩ s l[i]=some (qx s l[i].lits):=by rw[de,hY,if_pos ⟨c1,c2,c3⟩]
       have jc:=k8 aM xS
       rw[jc] at aV
       have ze:=wb.lD hL xS
       obtain⟨sv,scl,rf⟩:=s
       simp only[qx] at*
       cases rf with
       |true=>
        (refine fB ?_;(focus ((with_reducible apply aa.aj);(iterate 7 exact rfl);rotate_left;omega));refine Q3 ?_;(with_reducible apply aa.inline (hf:=Tryz.func69));(with_reducible assumption);(iterate 10 exact rfl);intro g_ aU aT;refine uf ?_;(with_reducible apply AW.bu);exact rfl;exact rfl;kernel_rfl;(with_reducible assumption);refine HO ?_;(with_reducible apply aa.ti);(iterate 3 exact rfl);(repeat' first|exact Sub.nil|apply Sub.take|apply Sub.skip);(iterate 3 exact rfl);refine Jb ?_;refine qJ ?_;refine d_ ?_;refine aa.bc rfl rfl rfl ?_;refine mw ?_;(with_reducible apply aa.inline (hf:=Tryz.func95));(with_reducible assumption);(iterate 10 exact rfl);intro g_ aU aT;refine Dw ?_;refine zm ?_;refine pb ?_;(with_reducible apply aa.bh);exact rfl;(first|exact .pv rfl|exact .own rfl|exact .nil rfl);(iterate 9 exact rfl);(first|omega|(simp only[List.length_map,List.length_append,List.length_cons,List.length_nil,List.length_drop,List.length_take,List.length_set,List.length_range,aL];omega));refine GQ ?_;refine dX ?_;refine wW ?_;refine J0 ?_)
        exact MZ
       |false=>
        (refine fB ?_;(focus ((with_reducible apply aa.aj);(iterate 7 exact rfl);rotate_left;omega));refine Q3 ?_;(with_reducible apply aa.inline (hf:=Tryz.func69));(with_reducible assumption);(iterate 10 exact rfl);intro g_ aU aT;refine uf ?_;(with_reducible apply AW.bu);exact rfl;exact rfl;kernel_rfl;(with_reducible assumption);refine HO ?_;(with_reducible apply aa.ti);(iterate 3 exact rfl);(repeat' first|exact Sub.nil|apply Sub.take|apply Sub.skip);(iterate 3 exact rfl);refine Jb ?_;refine qJ ?_;refine d_ ?_;refine aa.bc rfl rfl rfl ?_;refine mw ?_;(with_reducible apply aa.inline (hf:=Tryz.func95));(with_reducible assumption);(iterate 10 exact rfl);intro g_ aU aT;refine Dw ?_;refine zm ?_;refine pb ?_;(with_reducible apply aa.bh);exact rfl;(first|exact .pv rfl|exact .own rfl|exact .nil rfl);(iterate 9 exact rfl);(first|omega|(simp only[List.length_map,List.length_append,List.length_cons,List.length_nil,List.length_drop,List.length_take,List.length_set,List.length_range,aL];omega));refine GQ ?_;refine zb ?_;refine l9 ?_;refine zn ?_;refine z6 ?_;refine J0 ?_)
        exact MZ
    ·have jc:=cj aM (by rw[de,hY,if_neg (fun h=>c1 h.1)])
     rw[jc] at aV
     rw[aV]
     (refine fB ?_;(focus ((with_reducible apply aa.aj);(iterate 7 exact rfl);rotate_left;omega));refine Q3 ?_;(with_reducible apply aa.inline (hf:=Tryz.func69));(with_reducible assumption);(iterate 10 exact rfl);intro g_ aU aT;refine IM ?_;show aa .held _ _ _ [_,_,_,_,_,_,_,_,_,_,_] _ _;refine FQ ?_;(iterate 7 refine aa.db rfl rfl rfl rfl rfl rfl (by with_reducible assumption) ?_);refine Q4 ?_;intro k_ cR;refine nz ?_;refine AR.ba (i:=11) rfl (by kernel_rfl) rfl ?_;intro g_ ag bw;refine GL ?_;refine Q4 ?_;refine AR.c9 [12,13,14,15,16,17,18,19,20] (by kernel_rfl) (by kernel_rfl) (by kernel_rfl) (by kernel_rfl) ?_;intro g_ ag;show aa .held _ _ _ [_,_,_,_,_,_,_,_,_] _ _;refine GL ?_;refine zT ?_;refine zm ?_;(iterate 6 refine aa.bY rfl rfl rfl rfl rfl rfl rfl ?_);refine Q4 ?_;intro k_ cR;refine nz ?_;refine AR.ba (i:=21) rfl (by kernel_rfl) rfl ?_;intro g_ ag bw;refine vz ?_;refine AR.c9 [22,23] (by kernel_rfl) (by kernel_rfl) (by kernel_rfl) (by kernel_rfl) ?_;intro g_ ag;show aa .held _ _ _ [_,_] _ _;refine AD ?_;refine Q4 ?_;intro k_ cR;refine xP ?_;(with_reducible apply AW.fK 14 9 12 3);(iterate 3 exact rfl);refine kE ?_)
     (apply ax;(exact bA.two (.tmp rfl rfl) (.tmp rfl rfl));(refine uj ?_;refine fH.cons ?_ ?_;refine Le.al ?_;(first|rfl|simp);exact fH.nil))
   by_cases k2:l[i].kind=2
   ·have wh:eb (tK lH) l[i].kind=some (um (.func 70)):=by rw[mO,if_neg k1,if_pos k2]
    have de:cC ⟨v,cl,syms⟩ s l[i]=ga s l[i]:=yO k2
    by_cases c1:l[i].sym=0
    ·cases c2:ay s.vars l[i].lits with
     |false=>
      rw[c2] at hw
      have jc:=cj aM (by rw[de,ga,if_neg (by rw[c2];simp)])
      rw[jc] at aV
      rw[aV]
      (refine fB ?_;(focus ((with_reducible apply aa.aj);(iterate 7 exact rfl);rotate_left;omega));refine Q3 ?_;(with_reducible apply aa.inline (hf:=Tryz.func70));(with_reducible assumption);(iterate 10 exact rfl);intro g_ aU aT;refine uf ?_;(with_reducible apply AW.bu);exact rfl;exact rfl;kernel_rfl;(with_reducible assumption);refine FQ ?_;refine JY ?_;refine xD ?_;refine zA (hw) ?_;refine Aq ?_;refine e6 ?_;refine Eh ?_;(with_reducible apply AW.fK 14 9 12 3);(iterate 3 exact rfl);refine kE ?_)
      (apply ax;(exact bA.two (.tmp rfl rfl) (.tmp rfl rfl));(refine uj ?_;refine fH.cons ?_ ?_;refine Le.al ?_;(first|rfl|simp);exact fH.nil))
     |true=>
      rw[c2] at hw
      have wj:=gY l[i].lits (by omega)
      (refine fB ?_;(focus ((with_reducible apply aa.aj);(iterate 7 exact rfl);rotate_left;omega));refine Q3 ?_;(with_reducible apply aa.inline (hf:=Tryz.func70));(with_reducible assumption);(iterate 10 exact rfl);intro g_ aU aT;refine uf ?_;(with_reducible apply AW.bu);exact rfl;exact rfl;kernel_rfl;(with_reducible assumption);refine FQ ?_;refine JY ?_;refine xD ?_;refine zA (hw) ?_;refine Aq ?_;refine qJ ?_;refine d_ ?_;refine mw ?_;refine zP (wj) ?_;refine pE ?_;refine Bs ?_;refine mN ?_;refine Q9 ?_;refine aa.ah 73 0 0 rfl rfl rfl rfl ?_;refine rh ?_;refine aa.dT rfl rfl rfl ?_;(with_reducible apply aa.inline (hf:=Tryz.func97));(with_reducible assumption);(iterate 10 exact rfl);intro g_ aU aT;refine nz ?_;refine j9 ?_;refine FB ?_;refine zm ?_;refine lf ?_)
      (refine nz ?_;apply AW.bM [7,0,1,1029,1028,1027,1026,1025,1024,1005,1015,1014,1013,1012,1009,1008,1004,1000,2073,2072,2071,2070,2069,2068,2015,2014,2012,2013,2056,2055,2054,2008,2009,2002] [7,6,5,3,4,2] (fun j:Nat=>([(8,al j)]:List (Nat×AV))) (fun j:Nat=>([]:List (Nat×Option Ob))) (fun j:Nat=>j≤s.cl.length∧(s.cl.take j).any (G3 l[i].lits)=false) (fun j:Nat=>s.cl.length - j) (0);(conv=>lhs;simp only[Nf.gQ,Nf.all,Nat.reduceBEq,reduceAdd,reduceSub]);(all_goals skip))
      ·exact⟨Nat.zero_le _,rfl⟩
      ·exact Q7
      rintro j ⟨hj,tA⟩
      by_cases kL:j<s.cl.length
      ·obtain⟨d1,d2⟩:=MY.dq _ (List.getElem_mem kL)
       have dB:=gY s.cl[j] (by omega)
       have heq:=nZ (canon s.cl[j]) (canon l[i].lits)
       have uH:=mH (p:=G3 l[i].lits) kL
       rw[tA,Bool.false_or] at uH
       by_cases he:canon s.cl[j]=canon l[i].lits
       ·rw[decide_eq_true he] at heq
        have En:G3 l[i].lits s.cl[j]=true:=decide_eq_true he
        have xS:cC ⟨v,cl,syms⟩ s l[i]=some ⟨s.vars,s.cl.eraseIdx j,s.ref⟩:=by rw[de,ga,if_pos ⟨c1,c2,pd kL En⟩,pX kL tA En]
        have jc:=k8 aM xS
        rw[jc] at aV
        have ze:=wb.lD hL xS
        (refine Be ?_;(focus ((with_reducible apply aa.aD);(iterate 4 exact rfl);(focus (intro h_;cases h_;done));rotate_left;(first|omega|exact Nat.zero_lt_one|(simp;done))));(with_reducible apply aa.inline (hf:=Tryz.func98));(with_reducible assumption);(iterate 10 exact rfl);intro g_ aU aT;refine nz ?_;refine jw ?_;refine AW.bN [0,2] [] rfl (by assumption) (by kernel_rfl) (by kernel_rfl) rfl ?_;show aa .held _ _ _ [_,_] _ _;refine zm ?_;refine zb ?_;refine Q4 ?_;intro k_ cR;refine nz ?_;refine AR.ba (i:=1) rfl (by kernel_rfl) rfl ?_;intro g_ ag bw;refine zP (dB) ?_;refine Q4 ?_;refine AR.ba (i:=3) rfl (by kernel_rfl) rfl ?_;intro g_ ag bw;refine zA (heq) ?_;refine Q4 ?_;refine AR.c9 [4] (by kernel_rfl) (by kernel_rfl) (by kernel_rfl) (by kernel_rfl) ?_;intro g_ ag;show aa .held _ _ _ [_] _ _;refine za ?_;refine Q4 ?_;intro k_ cR;refine zO ?_;refine wi ?_;refine zq ?_;refine zm ?_;refine Ck ?_;refine nz ?_;refine kh ?_;refine nV ?_;refine zs ?_;refine qJ ?_;refine d_ ?_;refine yd ?_;refine aa.ah 73 0 0 rfl rfl rfl rfl ?_;refine rh ?_;(iterate 2 refine zm ?_);refine zj ?_;(refine aa.Pj j s.cl rfl rfl rfl rfl rfl rfl rfl rfl (by omega) (by omega) ?_);(try refine nz ?_);refine D5 ?_;refine aa.ah 24 1 1 rfl rfl rfl rfl ?_;refine Bs ?_;refine mN ?_;refine iq ?_;refine zl ?_;refine aa.not rfl rfl rfl ?_;refine tB ?_;refine Ej ?_;refine tC ?_)
        exact⟨(i+1,_),⟨by show i+1≤l.length;omega,by show ic (1000+wS (l.take (i+1))) _;rw[tk aM,← Nat.add_assoc];exact ze,by show _=(_,_+(i+1));rw[aV];simp [Nat.add_assoc,Nat.add_comm 1 i]⟩,by show l.length - (i+1)<l.length - i;omega,aO rfl (by(refine⟨.bJ (by first|with_reducible rfl|(rfl)),?_⟩;refine⟨.bJ (by first|with_reducible rfl|(rfl)),?_⟩;refine⟨.bF (by first|with_reducible rfl|(rfl)),?_⟩;(iterate 2 refine⟨.eq rfl rfl,?_⟩);refine⟨.bF (by first|with_reducible rfl|(rfl)),?_⟩;exact trivial)) (by(refine⟨.box _ rfl ?_,?_⟩;refine⟨.bJ (by first|with_reducible rfl|(rfl)),?_⟩;refine⟨.ak (by first|with_reducible rfl|(rfl)) rfl,?_⟩;refine⟨.bJ (by first|with_reducible rfl|(rfl)),?_⟩;refine⟨.bF (by first|with_reducible rfl|(rfl)),?_⟩;refine⟨.ak (by first|with_reducible rfl|(rfl)) rfl,?_⟩;refine⟨.fj (by first|with_reducible rfl|(rfl)),?_⟩;exact trivial;(iterate 2 refine⟨.row rfl,?_⟩);exact trivial)) rfl⟩
       ·rw[decide_eq_false he] at heq
        have En:G3 l[i].lits s.cl[j]=false:=decide_eq_false he
        rw[En] at uH
        (refine Be ?_;(focus ((with_reducible apply aa.aD);(iterate 4 exact rfl);(focus (intro h_;cases h_;done));rotate_left;(first|omega|exact Nat.zero_lt_one|(simp;done))));(with_reducible apply aa.inline (hf:=Tryz.func98));(with_reducible assumption);(iterate 10 exact rfl);intro g_ aU aT;refine nz ?_;refine jw ?_;refine AW.bN [0,2] [] rfl (by assumption) (by kernel_rfl) (by kernel_rfl) rfl ?_;show aa .held _ _ _ [_,_] _ _;refine zm ?_;refine zb ?_;refine Q4 ?_;intro k_ cR;refine nz ?_;refine AR.ba (i:=1) rfl (by kernel_rfl) rfl ?_;intro g_ ag bw;refine zP (dB) ?_;refine Q4 ?_;refine AR.ba (i:=3) rfl (by kernel_rfl) rfl ?_;intro g_ ag bw;refine zA (heq) ?_;refine Q4 ?_;refine AR.c9 [4] (by kernel_rfl) (by kernel_rfl) (by kernel_rfl) (by kernel_rfl) ?_;intro g_ ag;show aa .held _ _ _ [_] _ _;refine za ?_;refine Q4 ?_;intro k_ cR;refine zO ?_;refine kg ?_;refine jB ?_)
        exact Ns
      ·rw[bK (l:=s.cl) (by omega)] at tA
       have jc:=cj aM (by rw[de,ga,if_neg (by rw[tA];simp)])
       rw[jc] at aV
       rw[aV]
       (refine kO ?_;refine iq ?_;refine kh ?_;refine nV ?_;refine zs ?_;refine e6 ?_;refine Eh ?_;(with_reducible apply AW.fK 14 9 12 3);(iterate 3 exact rfl);refine kE ?_)
       (apply ax;(exact bA.two (.tmp rfl rfl) (.tmp rfl rfl));(refine uj ?_;refine fH.cons ?_ ?_;refine Le.al ?_;(first|rfl|simp);exact fH.nil))
    ·have jc:=cj aM (by rw[de,ga,if_neg (fun h=>c1 h.1)])
     rw[jc] at aV
     rw[aV]
     (refine fB ?_;(focus ((with_reducible apply aa.aj);(iterate 7 exact rfl);rotate_left;omega));refine Q3 ?_;(with_reducible apply aa.inline (hf:=Tryz.func70));(with_reducible assumption);(iterate 10 exact rfl);intro g_ aU aT;refine IM ?_;show aa .held _ _ _ [_,_,_,_,_,_,_,_,_,_,_] _ _;refine FQ ?_;(iterate 7 refine aa.db rfl rfl rfl rfl rfl rfl (by with_reducible assumption) ?_);refine Q4 ?_;intro k_ cR;refine nz ?_;refine AR.ba (i:=11) rfl (by kernel_rfl) rfl ?_;intro g_ ag bw;refine GL ?_;refine Q4 ?_;refine H9 ?_;intro g_ ag;show aa .held _ _ _ [_,_] _ _;refine GL ?_;refine zT ?_;refine Q4 ?_;intro k_ cR;refine xP ?_;(with_reducible apply AW.fK 14 9 12 3);(iterate 3 exact rfl);refine kE ?_)
     (apply ax;(exact bA.two (.tmp rfl rfl) (.tmp rfl rfl));(refine uj ?_;refine fH.cons ?_ ?_;refine Le.al ?_;(first|rfl|simp);exact fH.nil))
   by_cases k3:l[i].kind=3
   ·have wh:eb (tK lH) l[i].kind=some (um (.func 71)):=by rw[mO,if_neg k1,if_neg k2,if_pos k3]
    have de:cC ⟨v,cl,syms⟩ s l[i]=e9 s l[i]:=yn k3
    have HJ:=jR s.vars (l[i].lits.drop 1) (by omega)
    have ye:(l[i].lits.drop 1).length=l[i].lits.length - 1:=List.length_drop
    by_cases d1:l[i].sym=0
    ·by_cases d2:2≤l[i].lits.length
     ·have d2':¬(l[i].lits.length:Int)<2:=by omega
      have h0:l[i].lits.getD 0 0=l[i].lits[0]:=by rw[List.getD_eq_getElem?_getD,List.getElem?_eq_getElem (by omega)];rfl
      by_cases d3:l[i].lits[0]=s.vars+1
      ·have d3':l[i].lits[(0:Int).toNat]'(by simp;omega)=s.vars+1:=d3
       by_cases d4:l[i].lits[0]≤20000
       ·have d4':l[i].lits[(0:Int).toNat]'(by simp;omega)≤20000:=d4
        cases d5:ay s.vars (l[i].lits.drop 1) with
        |false=>
         rw[d5] at HJ
         have jc:=cj aM (by rw[de,e9,if_neg (by rintro⟨_,_,_,_,h⟩;rw[d5] at h;cases h)])
         rw[jc] at aV
         rw[aV]
         (refine fB ?_;(focus ((with_reducible apply aa.aj);(iterate 7 exact rfl);rotate_left;omega));refine Q3 ?_;(with_reducible apply aa.inline (hf:=Tryz.func71));(with_reducible assumption);(iterate 10 exact rfl);intro g_ aU aT;refine uf ?_;(with_reducible apply AW.bu);exact rfl;exact rfl;kernel_rfl;(with_reducible assumption);refine A6 ?_;refine iP ?_;refine xD ?_;(focus ((with_reducible apply aa.bs);(iterate 7 exact rfl);omega;rotate_left;(first|omega|exact Nat.zero_lt_one|(simp;done))));refine B6 ?_;refine iP ?_;refine xD ?_;(focus ((with_reducible apply aa.bs);(iterate 7 exact rfl);omega;rotate_left;(first|omega|exact Nat.zero_lt_one|(simp;done))));refine zy ?_;refine zr ?_;refine Bq ?_;refine zm ?_;refine KF ?_;refine e6 ?_;refine Eh ?_;(with_reducible apply AW.fK 14 9 12 3);(iterate 3 exact rfl);refine kE ?_)
         (apply ax;(exact bA.two (.tmp rfl rfl) (.tmp rfl rfl));(refine uj ?_;refine fH.cons ?_ ?_;refine Le.al ?_;(first|rfl|simp);exact fH.nil))
        |true=>
         rw[d5] at HJ
         have xS:cC ⟨v,cl,syms⟩ s l[i]=some ⟨s.vars+1,s.cl++defs l[i].lits[0] (l[i].lits.drop 1),s.ref⟩:=by rw[de,e9,if_pos ⟨d1,d2,by rw[h0];exact d3,by rw[h0];exact d4,d5⟩,h0]
         have jc:=k8 aM xS
         rw[jc] at aV
         have ze:=wb.lD hL xS
         obtain⟨sv,scl,rf⟩:=s
         simp only at*
         cases rf with
         |true=>
          have Nn:(l[i].lits.drop (1:Int).toNat).length=l[i].lits.length - 1:=ye
          have d5':ay sv (l[i].lits.drop (1:Int).toNat)=true:=d5
          (refine fB ?_;(focus ((with_reducible apply aa.aj);(iterate 7 exact rfl);rotate_left;omega));refine Q3 ?_;(with_reducible apply aa.inline (hf:=Tryz.func71));(with_reducible assumption);(iterate 10 exact rfl);intro g_ aU aT;refine uf ?_;(with_reducible apply AW.bu);exact rfl;exact rfl;kernel_rfl;(with_reducible assumption);refine A6 ?_;refine iP ?_;refine xD ?_;(focus ((with_reducible apply aa.bs);(iterate 7 exact rfl);omega;rotate_left;(first|omega|exact Nat.zero_lt_one|(simp;done))));refine B6 ?_;refine iP ?_;refine xD ?_;(focus ((with_reducible apply aa.bs);(iterate 7 exact rfl);omega;rotate_left;(first|omega|exact Nat.zero_lt_one|(simp;done))));refine zy ?_;refine zr ?_;refine Bq ?_;refine zm ?_;refine KS ?_;refine mN ?_;refine mw ?_;(focus ((with_reducible apply aa.bs);(iterate 7 exact rfl);omega;rotate_left;(first|omega|exact Nat.zero_lt_one|(simp;done))));refine Kd ?_)
          (refine nz ?_;apply AW.bM [66,65,64,63,61,60,59,58,57,56,55,54,15,14,13,12,9,8,4,3,0,1073,1072,1071,1070,1069,1068,1015,1014,1012,1013,1056,1055,1054,1008,1009,1002] [6,5,4,2] (fun j:Nat=>([(67,al j),(5,.own 7 3 1 ((l[i].lits[0]::((l[i].lits.drop (1:Int).toNat).take j).map fun x=> -x).map encI))]:List (Nat×AV))) (fun j:Nat=>([(3,some (.box [al (sv+1),.own 2 25 1 ((scl++((l[i].lits.drop (1:Int).toNat).take j).map fun x=>[-l[i].lits[0],x]).map fun c=>[ints c]),al v,.pv (cV syms),.own 4 4 1 ((kj.valid ⟨v,cl,syms⟩).map hX),aF true])),(7,some .row)]:List (Nat×Option Ob))) (fun j:Nat=>j≤(l[i].lits.drop (1:Int).toNat).length) (fun j:Nat=>(l[i].lits.drop (1:Int).toNat).length - j) (0);(conv=>lhs;simp only[Nf.gQ,Nf.all,Nat.reduceBEq,reduceAdd,reduceSub]);(all_goals skip))
          ·exact Nat.zero_le _
          ·exact Q6
          rintro j hj
          have Ek:((l[i].lits.drop (1:Int).toNat).take j).length≤900:=by rw[List.length_take];omega
          by_cases kL:j<(l[i].lits.drop (1:Int).toNat).length
          ·have GJ:=aY d5' _ (List.getElem_mem kL)
           have qz:=aR kL
           have hq1:(l[i].lits[0]::((l[i].lits.drop (1:Int).toNat).take (j+1)).map fun x=> -x).map encI=(l[i].lits[0]::((l[i].lits.drop (1:Int).toNat).take j).map fun x=> -x).map encI++ [encI (-(l[i].lits.drop (1:Int).toNat)[j])]:=by rw[qz];simp
           have hq2:((scl++((l[i].lits.drop (1:Int).toNat).take (j+1)).map fun x=>[-l[i].lits[0],x]).map fun c=>[ints c])=((scl++((l[i].lits.drop (1:Int).toNat).take j).map fun x=>[-l[i].lits[0],x]).map fun c=>[ints c])++ [[ints [-l[i].lits[0],(l[i].lits.drop (1:Int).toNat)[j]]]]:=by rw[qz];simp
           (refine Bt ?_;(focus ((with_reducible apply aa.aj);(iterate 7 exact rfl);rotate_left;omega));refine zr ?_;refine oq ?_;refine aa.bc rfl rfl rfl ?_;refine mw ?_;(focus ((with_reducible apply aa.bs);(iterate 7 exact rfl);omega;rotate_left;(first|omega|exact Nat.zero_lt_one|(simp;done))));refine zr ?_;refine aa.neg rfl rfl rfl (by omega) ?_;refine zm ?_;refine A1 ?_;refine nz ?_;(with_reducible apply aa.inline (hf:=Tryz.func95));(with_reducible assumption);(iterate 10 exact rfl);intro g_ aU aT;refine Gm ?_;refine nz ?_;refine pb ?_;(with_reducible apply aa.bh);exact rfl;(first|exact .pv rfl|exact .own rfl|exact .nil rfl);(iterate 9 exact rfl);(first|omega|(simp only[List.length_map,List.length_append,List.length_cons,List.length_nil,List.length_drop,List.length_take,List.length_set,List.length_range,aL];omega));refine GQ ?_;refine dX ?_;refine wW ?_;refine Mh ?_;(with_reducible apply aa.bh);exact rfl;(first|exact .pv rfl|exact .own rfl|exact .nil rfl);(iterate 9 exact rfl);(first|omega|(simp only[List.length_map,List.length_append,List.length_cons,List.length_nil,List.length_drop,List.length_take,List.length_set,List.length_range,aL];omega));refine nz ?_;refine sU ?_;refine nz ?_;refine Bf ?_)
           exact Q8
          ·rw[bK (l:=l[i].lits.drop (1:Int).toNat) (by omega)]
           have eN:(l[i].lits[0]::(l[i].lits.drop (1:Int).toNat).map fun x=> -x).length=(l[i].lits.drop (1:Int).toNat).length+1:=by simp
           (refine kO ?_;refine aa.bc rfl rfl rfl ?_;refine aa.bz rfl rfl rfl ?_;(with_reducible apply aa.inline (hf:=Tryz.func95));(with_reducible assumption);(iterate 10 exact rfl);intro g_ aU aT;refine Gm ?_;refine nz ?_;refine pb ?_;(with_reducible apply aa.bh);exact rfl;(first|exact .pv rfl|exact .own rfl|exact .nil rfl);(iterate 9 exact rfl);(first|omega|(simp only[List.length_map,List.length_append,List.length_cons,List.length_nil,List.length_drop,List.length_take,List.length_set,List.length_range,aL];omega));refine GQ ?_;refine dX ?_;refine wW ?_;refine J0 ?_)
           exact Qt
         |false=>
          have Nn:(l[i].lits.drop (1:Int).toNat).length=l[i].lits.length - 1:=ye
          have d5':ay sv (l[i].lits.drop (1:Int).toNat)=true:=d5
          (refine fB ?_;(focus ((with_reducible apply aa.aj);(iterate 7 exact rfl);rotate_left;omega));refine Q3 ?_;(with_reducible apply aa.inline (hf:=Tryz.func71));(with_reducible assumption);(iterate 10 exact rfl);intro g_ aU aT;refine uf ?_;(with_reducible apply AW.bu);exact rfl;exact rfl;kernel_rfl;(with_reducible assumption);refine A6 ?_;refine iP ?_;refine xD ?_;(focus ((with_reducible apply aa.bs);(iterate 7 exact rfl);omega;rotate_left;(first|omega|exact Nat.zero_lt_one|(simp;done))));refine B6 ?_;refine iP ?_;refine xD ?_;(focus ((with_reducible apply aa.bs);(iterate 7 exact rfl);omega;rotate_left;(first|omega|exact Nat.zero_lt_one|(simp;done))));refine zy ?_;refine zr ?_;refine Bq ?_;refine zm ?_;refine KS ?_;refine mN ?_;refine mw ?_;(focus ((with_reducible apply aa.bs);(iterate 7 exact rfl);omega;rotate_left;(first|omega|exact Nat.zero_lt_one|(simp;done))));refine Kd ?_)
          (refine nz ?_;apply AW.bM [66,65,64,63,61,60,59,58,57,56,55,54,15,14,13,12,9,8,4,3,0,1073,1072,1071,1070,1069,1068,1015,1014,1012,1013,1056,1055,1054,1008,1009,1002] [6,5,4,2] (fun j:Nat=>([(67,al j),(5,.own 7 3 1 ((l[i].lits[0]::((l[i].lits.drop (1:Int).toNat).take j).map fun x=> -x).map encI))]:List (Nat×AV))) (fun j:Nat=>([(3,some (.box [al (sv+1),.own 2 25 1 ((scl++((l[i].lits.drop (1:Int).toNat).take j).map fun x=>[-l[i].lits[0],x]).map fun c=>[ints c]),al v,.pv (cV syms),.own 4 4 1 ((kj.valid ⟨v,cl,syms⟩).map hX),aF false])),(7,some .row)]:List (Nat×Option Ob))) (fun j:Nat=>j≤(l[i].lits.drop (1:Int).toNat).length) (fun j:Nat=>(l[i].lits.drop (1:Int).toNat).length - j) (0);(conv=>lhs;simp only[Nf.gQ,Nf.all,Nat.reduceBEq,reduceAdd,reduceSub]);(all_goals skip))
          ·exact Nat.zero_le _
          ·exact Q6
          rintro j hj
          have Ek:((l[i].lits.drop (1:Int).toNat).take j).length≤900:=by rw[List.length_take];omega
          by_cases kL:j<(l[i].lits.drop (1:Int).toNat).length
          ·have GJ:=aY d5' _ (List.getElem_mem kL)
           have qz:=aR kL
           have hq1:(l[i].lits[0]::((l[i].lits.drop (1:Int).toNat).take (j+1)).map fun x=> -x).map encI=(l[i].lits[0]::((l[i].lits.drop (1:Int).toNat).take j).map fun x=> -x).map encI++ [encI (-(l[i].lits.drop (1:Int).toNat)[j])]:=by rw[qz];simp
           have hq2:((scl++((l[i].lits.drop (1:Int).toNat).take (j+1)).map fun x=>[-l[i].lits[0],x]).map fun c=>[ints c])=((scl++((l[i].lits.drop (1:Int).toNat).take j).map fun x=>[-l[i].lits[0],x]).map fun c=>[ints c])++ [[ints [-l[i].lits[0],(l[i].lits.drop (1:Int).toNat)[j]]]]:=by rw[qz];simp
           (refine Bt ?_;(focus ((with_reducible apply aa.aj);(iterate 7 exact rfl);rotate_left;omega));refine zr ?_;refine oq ?_;refine aa.bc rfl rfl rfl ?_;refine mw ?_;(focus ((with_reducible apply aa.bs);(iterate 7 exact rfl);omega;rotate_left;(first|omega|exact Nat.zero_lt_one|(simp;done))));refine zr ?_;refine aa.neg rfl rfl rfl (by omega) ?_;refine zm ?_;refine A1 ?_;refine nz ?_;(with_reducible apply aa.inline (hf:=Tryz.func95));(with_reducible assumption);(iterate 10 exact rfl);intro g_ aU aT;refine Gm ?_;refine nz ?_;refine pb ?_;(with_reducible apply aa.bh);exact rfl;(first|exact .pv rfl|exact .own rfl|exact .nil rfl);(iterate 9 exact rfl);(first|omega|(simp only[List.length_map,List.length_append,List.length_cons,List.length_nil,List.length_drop,List.length_take,List.length_set,List.length_range,aL];omega));refine GQ ?_;refine zb ?_;refine l9 ?_;refine aa.len rfl rfl rfl rfl ?_;refine z6 ?_;refine Mh ?_;(with_reducible apply aa.bh);exact rfl;(first|exact .pv rfl|exact .own rfl|exact .nil rfl);(iterate 9 exact rfl);(first|omega|(simp only[List.length_map,List.length_append,List.length_cons,List.length_nil,List.length_drop,List.length_take,List.length_set,List.length_range,aL];omega));refine nz ?_;refine sU ?_;refine nz ?_;refine Bf ?_)
           exact Q8
          ·rw[bK (l:=l[i].lits.drop (1:Int).toNat) (by omega)]
           have eN:(l[i].lits[0]::(l[i].lits.drop (1:Int).toNat).map fun x=> -x).length=(l[i].lits.drop (1:Int).toNat).length+1:=by simp
           (refine kO ?_;refine aa.bc rfl rfl rfl ?_;refine aa.bz rfl rfl rfl ?_;(with_reducible apply aa.inline (hf:=Tryz.func95));(with_reducible assumption);(iterate 10 exact rfl);intro g_ aU aT;refine Gm ?_;refine nz ?_;refine pb ?_;(with_reducible apply aa.bh);exact rfl;(first|exact .pv rfl|exact .own rfl|exact .nil rfl);(iterate 9 exact rfl);(first|omega|(simp only[List.length_map,List.length_append,List.length_cons,List.length_nil,List.length_drop,List.length_take,List.length_set,List.length_range,aL];omega));refine GQ ?_;refine zb ?_;refine l9 ?_;refine zn ?_;refine z6 ?_;refine J0 ?_)
           exact Qt
       ·have d4':¬l[i].lits[(0:Int).toNat]'(by simp;omega)≤20000:=d4
        have jc:=cj aM (by rw[de,e9,if_neg (by rintro⟨_,_,_,h,_⟩;rw[h0] at h;exact d4 h)])
        rw[jc] at aV
        rw[aV]
        (refine fB ?_;(focus ((with_reducible apply aa.aj);(iterate 7 exact rfl);rotate_left;omega));refine Q3 ?_;(with_reducible apply aa.inline (hf:=Tryz.func71));(with_reducible assumption);(iterate 10 exact rfl);intro g_ aU aT;refine MS ?_;show aa .held _ _ _ [_,_,_,_,_,_,_,_,_,_,_,_,_,_,_,_,_,_,_,_,_,_,_,_,_,_,_,_,_,_,_,_,_,_,_,_,_,_] _ _;refine A6 ?_;refine iP ?_;refine xD ?_;(focus ((with_reducible apply aa.bs);(iterate 7 exact rfl);omega;rotate_left;(first|omega|exact Nat.zero_lt_one|(simp;done))));refine B6 ?_;refine iP ?_;refine xD ?_;(focus ((with_reducible apply aa.bs);(iterate 7 exact rfl);omega;rotate_left;(first|omega|exact Nat.zero_lt_one|(simp;done))));refine zy ?_;refine zr ?_;refine Bq ?_;refine zm ?_;(iterate 8 refine aa.db rfl rfl rfl rfl rfl rfl (by first|omega|decide) ?_);refine Q4 ?_;intro k_ cR;refine FW ?_;intro g_ ag bw;refine aa.db rfl rfl rfl rfl rfl rfl (by first|omega|decide) ?_;refine Q4 ?_;refine FE ?_;intro g_ ag;show aa .held _ _ _ [_,_] _ _;refine aa.db rfl rfl rfl rfl rfl rfl (by first|omega|decide) ?_;refine zT ?_;refine Q4 ?_;intro k_ cR;refine xP ?_;(with_reducible apply AW.fK 14 9 12 3);(iterate 3 exact rfl);refine kE ?_)
        (apply ax;(exact bA.two (.tmp rfl rfl) (.tmp rfl rfl));(refine uj ?_;refine fH.cons ?_ ?_;refine Le.al ?_;(first|rfl|simp);exact fH.nil))
      ·have d3':¬l[i].lits[(0:Int).toNat]'(by simp;omega)=s.vars+1:=d3
       have jc:=cj aM (by rw[de,e9,if_neg (by rintro⟨_,_,h,_⟩;rw[h0] at h;exact d3 h)])
       rw[jc] at aV
       rw[aV]
       (refine fB ?_;(focus ((with_reducible apply aa.aj);(iterate 7 exact rfl);rotate_left;omega));refine Q3 ?_;(with_reducible apply aa.inline (hf:=Tryz.func71));(with_reducible assumption);(iterate 10 exact rfl);intro g_ aU aT;refine MS ?_;show aa .held _ _ _ [_,_,_,_,_,_,_,_,_,_,_,_,_,_,_,_,_,_,_,_,_,_,_,_,_,_,_,_,_,_,_,_,_,_,_,_,_,_] _ _;refine A6 ?_;refine iP ?_;refine xD ?_;(focus ((with_reducible apply aa.bs);(iterate 7 exact rfl);omega;rotate_left;(first|omega|exact Nat.zero_lt_one|(simp;done))));refine B6 ?_;refine zm ?_;(iterate 5 refine aa.db rfl rfl rfl rfl rfl rfl (by with_reducible assumption) ?_);refine zT ?_;refine GA ?_;refine Q4 ?_;intro k_ cR;refine FW ?_;intro g_ ag bw;refine vz ?_;refine FE ?_;intro g_ ag;show aa .held _ _ _ [_,_] _ _;refine AD ?_;refine Q4 ?_;intro k_ cR;refine xP ?_;(with_reducible apply AW.fK 14 9 12 3);(iterate 3 exact rfl);refine kE ?_)
       (apply ax;(exact bA.two (.tmp rfl rfl) (.tmp rfl rfl));(refine uj ?_;refine fH.cons ?_ ?_;refine Le.al ?_;(first|rfl|simp);exact fH.nil))
     ·have d2':(l[i].lits.length:Int)<2:=by omega
      have jc:=cj aM (by rw[de,e9,if_neg (by rintro⟨_,h,_⟩;exact d2 h)])
      rw[jc] at aV
      rw[aV]
      (refine fB ?_;(focus ((with_reducible apply aa.aj);(iterate 7 exact rfl);rotate_left;omega));refine Q3 ?_;(with_reducible apply aa.inline (hf:=Tryz.func71));(with_reducible assumption);(iterate 10 exact rfl);intro g_ aU aT;refine MS ?_;show aa .held _ _ _ [_,_,_,_,_,_,_,_,_,_,_,_,_,_,_,_,_,_,_,_,_,_,_,_,_,_,_,_,_,_,_,_,_,_,_,_,_,_] _ _;refine A6 ?_;refine zm ?_;(iterate 11 refine aa.db rfl rfl rfl rfl rfl rfl (by with_reducible assumption) ?_);refine zT ?_;refine zm ?_;refine EW ?_;refine GA ?_;refine Q4 ?_;intro k_ cR;refine FW ?_;intro g_ ag bw;refine vz ?_;refine FE ?_;intro g_ ag;show aa .held _ _ _ [_,_] _ _;refine AD ?_;refine Q4 ?_;intro k_ cR;refine xP ?_;(with_reducible apply AW.fK 14 9 12 3);(iterate 3 exact rfl);refine kE ?_)
      (apply ax;(exact bA.two (.tmp rfl rfl) (.tmp rfl rfl));(refine uj ?_;refine fH.cons ?_ ?_;refine Le.al ?_;(first|rfl|simp);exact fH.nil))
    ·have jc:=cj aM (by rw[de,e9,if_neg (fun h=>d1 h.1)])
     rw[jc] at aV
     rw[aV]
     (refine fB ?_;(focus ((with_reducible apply aa.aj);(iterate 7 exact rfl);rotate_left;omega));refine Q3 ?_;(with_reducible apply aa.inline (hf:=Tryz.func71));(with_reducible assumption);(iterate 10 exact rfl);intro g_ aU aT;refine MS ?_;show aa .held _ _ _ [_,_,_,_,_,_,_,_,_,_,_,_,_,_,_,_,_,_,_,_,_,_,_,_,_,_,_,_,_,_,_,_,_,_,_,_,_,_] _ _;refine FQ ?_;refine FL ?_;refine zm ?_;(iterate 11 refine aa.bY rfl rfl rfl rfl rfl rfl rfl ?_);refine aa.bL rfl rfl rfl rfl rfl rfl ?_;refine zm ?_;refine EW ?_;refine GA ?_;refine Q4 ?_;intro k_ cR;refine FW ?_;intro g_ ag bw;refine vz ?_;refine FE ?_;intro g_ ag;show aa .held _ _ _ [_,_] _ _;refine AD ?_;refine Q4 ?_;intro k_ cR;refine xP ?_;(with_reducible apply AW.fK 14 9 12 3);(iterate 3 exact rfl);refine kE ?_)
     (apply ax;(exact bA.two (.tmp rfl rfl) (.tmp rfl rfl));(refine uj ?_;refine fH.cons ?_ ?_;refine Le.al ?_;(first|rfl|simp);exact fH.nil))
   by_cases k4:l[i].kind=4
   ·have wh:eb (tK lH) l[i].kind=some (um (.func 72)):=by rw[mO,if_neg k1,if_neg k2,if_neg k3,if_pos k4]
    have de:cC ⟨v,cl,syms⟩ s l[i]=jU ⟨v,cl,syms⟩ s l[i]:=yN k4
    cases c2:ay s.vars l[i].lits with
    |false=>
     rw[c2] at hw
     have jc:=cj aM (by rw[de,jU,if_neg (by rw[c2];simp)])
     rw[jc] at aV
     rw[aV]
     (refine fB ?_;(focus ((with_reducible apply aa.aj);(iterate 7 exact rfl);rotate_left;omega));refine Q3 ?_;(with_reducible apply aa.inline (hf:=Tryz.func72));(with_reducible assumption);(iterate 10 exact rfl);intro g_ aU aT;refine B0 ?_;(with_reducible apply AW.bu);exact rfl;exact rfl;kernel_rfl;(with_reducible assumption);refine zb ?_;refine D5 ?_;refine oJ ?_;refine mw ?_;refine zA (hw) ?_;refine aa.not rfl rfl rfl ?_;refine zm ?_;refine wW ?_;refine GA ?_;refine aa.bL rfl rfl rfl rfl rfl rfl ?_;refine zm ?_;refine H7 ?_;refine e6 ?_;refine Eh ?_;(with_reducible apply AW.fK 14 9 12 3);(iterate 3 exact rfl);refine kE ?_)
     (apply ax;(exact bA.two (.tmp rfl rfl) (.tmp rfl rfl));(refine uj ?_;refine fH.cons ?_ ?_;refine Le.al ?_;(first|rfl|simp);exact fH.nil))
    |true=>
     rw[c2] at hw
     by_cases m1:0≤l[i].sym
     ·by_cases m2:l[i].sym<syms.length
      ·have mt:l[i].sym.toNat<syms.length:=by omega
       have Hr:syms.getD l[i].sym.toNat []=syms[l[i].sym.toNat]:=by rw[List.getD_eq_getElem?_getD,List.getElem?_eq_getElem mt];rfl
       have M4:(kj.valid ⟨v,cl,syms⟩)[l[i].sym.toNat]'(by rw[HP];exact mt)=df v cl syms[l[i].sym.toNat]:=D8 ⟨v,cl,syms⟩ mt
       cases m3:df v cl syms[l[i].sym.toNat] with
       |false=>
        rw[m3] at M4
        have jc:=cj aM (e:=⟨v,cl,syms⟩) (s:=s) (by rw[de,jU,if_neg (by rw[Hr,m3];simp)])
        rw[jc] at aV
        rw[aV]
        have Fx:(!(kj.valid ⟨v,cl,syms⟩)[l[i].sym.toNat]'(by rw[HP];exact mt))=true:=by rw[M4];rfl
        (refine fB ?_;(focus ((with_reducible apply aa.aj);(iterate 7 exact rfl);rotate_left;omega));refine Q3 ?_;(with_reducible apply aa.inline (hf:=Tryz.func72));(with_reducible assumption);(iterate 10 exact rfl);intro g_ aU aT;refine B0 ?_;(with_reducible apply AW.bu);exact rfl;exact rfl;kernel_rfl;(with_reducible assumption);refine Lk ?_;(focus ((with_reducible apply aa.aD);(iterate 4 exact rfl);(focus (intro h_;cases h_;done));rotate_left;(first|omega|exact Nat.zero_lt_one|(simp;done))));refine Aq ?_;refine zd ?_;refine AW.xW rfl rfl (by assumption) ?_;refine d_ ?_;refine Eh ?_;(with_reducible apply AW.fK 14 9 12 3);(iterate 3 exact rfl);refine kE ?_)
        (apply ax;(exact bA.two (.tmp rfl rfl) (.tmp rfl rfl));(refine uj ?_;refine fH.cons ?_ ?_;refine Le.al ?_;(first|rfl|simp);exact fH.nil))
       |true=>
        rw[m3] at M4
        have Fx:(!(kj.valid ⟨v,cl,syms⟩)[l[i].sym.toNat]'(by rw[HP];exact mt))=false:=by rw[M4];rfl
        have wj:=gY l[i].lits (by omega)
        (refine fB ?_;(focus ((with_reducible apply aa.aj);(iterate 7 exact rfl);rotate_left;omega));refine Q3 ?_;(with_reducible apply aa.inline (hf:=Tryz.func72));(with_reducible assumption);(iterate 10 exact rfl);intro g_ aU aT;refine B0 ?_;(with_reducible apply AW.bu);exact rfl;exact rfl;kernel_rfl;(with_reducible assumption);refine Lk ?_;(focus ((with_reducible apply aa.aD);(iterate 4 exact rfl);(focus (intro h_;cases h_;done));rotate_left;(first|omega|exact Nat.zero_lt_one|(simp;done))));refine Aq ?_;refine zd ?_;refine AW.sP rfl rfl (by assumption) ?_;refine qi ?_;refine zo ?_;refine AW.bN [0,1,2,3,4,5,6,7,8,9] [13] rfl (by assumption) (by kernel_rfl) (by kernel_rfl) rfl ?_;show aa .held _ _ _ [_,_,_,_,_,_,_,_,_,_] _ _;refine zb ?_;refine aa.aI rfl rfl rfl ?_;refine aa.ah 73 2 3 rfl rfl rfl rfl ?_;refine zb ?_;refine aa.ah 44 2 2 rfl rfl rfl rfl ?_;refine zb ?_;(focus ((with_reducible apply aa.bs);(iterate 7 exact rfl);omega;rotate_left;(first|omega|exact Nat.zero_lt_one|(simp;done))));refine zr ?_;refine mw ?_;refine Q4 ?_;intro k_ cR;refine nz ?_;apply AR.cut [9,8,7,6,5,4,3,2,1,0,10,11,12];intro jt;apply AR.cut [9,8,7,6,5,4,3,2,1,0,10,12];intro nB;apply AR.cut [9,8,7,6,5,4,3,2,1,0,11,12];intro mW;apply AR.cut [9,8,7,6,5,4,3,2,1,0,10,11];intro nq;(refine AR.nR (i:=10) (j:=11) (m:=12) rfl (by kernel_rfl) rfl rfl rfl ?_ ?_ ?_<;>intro g_ ag bw);refine zP (wj) ?_;refine Q4 ?_;(refine AR.ck (i:=11) (j:=12) rfl (by kernel_rfl) rfl rfl ?_ ?_<;>intro g_ ag bw);refine AZ ?_;refine o8 ?_;exact AR.perm (by kernel_rfl) nq;refine AZ ?_;exact Bc;refine pE ?_;refine Q4 ?_;(refine AR.ck (i:=10) (j:=12) rfl (by kernel_rfl) rfl rfl ?_ ?_<;>intro g_ ag bw);refine zP (wj) ?_;refine Q4 ?_;(try refine nz ?_);refine AR.meet nq (by kernel_rfl) (fun g_=>aO rfl ?_ ?_ rfl);(iterate 79 refine⟨.eq rfl rfl,?_⟩);exact trivial;exact M6;refine AZ ?_;refine o8 ?_;exact AR.perm (by kernel_rfl) mW;refine pE ?_;refine Q4 ?_;(refine AR.ck (i:=10) (j:=11) rfl (by kernel_rfl) rfl rfl ?_ ?_<;>intro g_ ag bw);refine zP (wj) ?_;refine Q4 ?_;(try refine nz ?_);refine AR.meet nB (by kernel_rfl) (fun g_=>aO rfl ?_ ?_ rfl);(iterate 79 refine⟨.eq rfl rfl,?_⟩);exact trivial;exact M6;refine AZ ?_;refine AR.sw 8 9 (by assumption) (by kernel_rfl) (by kernel_rfl) ?_;refine Ay ?_;refine AR.meet mW (by kernel_rfl) (fun g_=>aO rfl ?_ ?_ rfl);(iterate 79 refine⟨.eq rfl rfl,?_⟩);exact trivial;refine⟨.box _ rfl ?_,?_⟩;exact sB;exact M6;refine AR.ba (i:=12) rfl (by kernel_rfl) rfl ?_;intro g_ ag bw;refine AZ ?_;exact rK;refine AR.ba (i:=10) rfl (by kernel_rfl) rfl ?_;intro g_ ag bw;refine zP (wj) ?_;refine Q4 ?_;(try refine nz ?_);exact Kl;refine AR.ba (i:=11) rfl (by kernel_rfl) rfl ?_;intro g_ ag bw;refine AZ ?_;refine AR.sw 8 9 (by assumption) (by kernel_rfl) (by kernel_rfl) ?_;refine Ay ?_;exact Kl;refine rH ?_;intro g_ ag aJ;refine lZ ?_;refine oK ?_;intro g_ ag aJ;refine lZ ?_;refine Bm ?_;refine zo ?_;refine zq ?_;refine zb ?_;refine D5 ?_;refine rh ?_;refine aa.xU rfl rfl rfl rfl rfl rfl rfl ?_;(with_reducible apply aa.inline (hf:=Tryz.func74));(with_reducible assumption);(iterate 10 exact rfl);intro g_ aU aT;refine nz ?_;refine l7 ?_;refine aa.bz rfl rfl rfl ?_;refine aa.dM rfl rfl rfl ?_;(with_reducible apply aa.inline (hf:=Tryz.func97));(with_reducible assumption);(iterate 10 exact rfl);intro g_ aU aT;refine nz ?_;refine j9 ?_;refine FB ?_;refine zm ?_;refine lf ?_)
        obtain⟨y1,y2⟩:=iF m3
        have OC:=oa hf.hv y2
        have Ss:=Bi.2 _ (List.getElem_mem mt)
        (refine nz ?_;apply AW.bM [7,0,1,1006,1005,1004,1000,1001,2058,2057,2056,2055,2054,2053,2006,2005,2015,2014,2013,2012,2009,2008,2004,2003,2002,3073,3072,3071,3070,3069,3068,3015,3014,3012,3013,3056,3055,3054,3008,3009,3002] [9,8,7,6,5,3,4,2] (fun j:Nat=>([(8,al j)]:List (Nat×AV))) (fun j:Nat=>([]:List (Nat×Option Ob))) (fun j:Nat=>j≤s.cl.length∧(s.cl.take j).any (fO v syms[l[i].sym.toNat] l[i].lits)=false) (fun j:Nat=>s.cl.length - j) (0);(conv=>lhs;simp only[Nf.gQ,Nf.all,Nat.reduceBEq,reduceAdd,reduceSub]);(all_goals skip))
        ·exact⟨Nat.zero_le _,rfl⟩
        ·exact Q7
        rintro j ⟨hj,tA⟩
        by_cases kL:j<s.cl.length
        ·obtain⟨q1,q2⟩:=wb.dq _ (List.getElem_mem kL)
         have OE:=jR v s.cl[j] (by omega)
         have uH:=mH (p:=fO v syms[l[i].sym.toNat] l[i].lits) kL
         rw[tA,Bool.false_or] at uH
         cases e1:ay v s.cl[j] with
         |false=>
          rw[e1] at OE
          have En:fO v syms[l[i].sym.toNat] l[i].lits s.cl[j]=false:=by unfold fO;rw[e1];rfl
          rw[En] at uH
          (refine Be ?_;(focus ((with_reducible apply aa.aD);(iterate 4 exact rfl);(focus (intro h_;cases h_;done));rotate_left;(first|omega|exact Nat.zero_lt_one|(simp;done))));(with_reducible apply aa.inline (hf:=Tryz.func101));(with_reducible assumption);(iterate 10 exact rfl);intro g_ aU aT;refine nz ?_;refine EH ?_;show aa .held _ _ _ [_,_,_,_,_] _ _;refine F7 ?_;intro k_ cR;refine Fp ?_;intro g_ ag bw;refine EB ?_;intro g_ ag;show aa .held _ _ _ [_,_,_,_] _ _;refine zm ?_;(iterate 3 refine aa.bY rfl rfl rfl rfl rfl rfl rfl ?_);refine Q4 ?_;intro k_ cR;refine FU ?_;intro g_ ag bw;refine vz ?_;refine AR.ba (i:=10) rfl (by kernel_rfl) rfl ?_;intro g_ ag bw;refine vz ?_;refine AR.ba (i:=12) rfl (by kernel_rfl) rfl ?_;intro g_ ag bw;refine vz ?_;refine FD ?_;intro g_ ag;show aa .held _ _ _ [_,_] _ _;refine aa.dm rfl rfl rfl rfl rfl rfl ?_;refine za ?_;refine Q4 ?_;intro k_ cR;refine zO ?_;refine kg ?_;refine jB ?_)
          exact Ns
         |true=>
          rw[e1] at OE
          have Br:=u0 syms[l[i].sym.toNat] s.cl[j] OC (by omega) (by omega) (by rw[y1];exact e1)
          have ri:=u7 syms[l[i].sym.toNat] s.cl[j]
          have S2:=gY (gE syms[l[i].sym.toNat] s.cl[j]) (by omega)
          have heq:=nZ (canon (gE syms[l[i].sym.toNat] s.cl[j])) (canon l[i].lits)
          by_cases he:canon (gE syms[l[i].sym.toNat] s.cl[j])=canon l[i].lits
          ·rw[decide_eq_true he] at heq
           have En:fO v syms[l[i].sym.toNat] l[i].lits s.cl[j]=true:=by unfold fO;rw[e1,decide_eq_true he];rfl
           have xS:cC ⟨v,cl,syms⟩ s l[i]=some (qx s l[i].lits):=by rw[de,jU,if_pos ⟨c2,⟨m1,m2⟩,by rw[Hr];exact m3,by rw[Hr];exact pd kL En⟩]
           have jc:=k8 aM xS
           rw[jc] at aV
           have ze:=wb.lD hL xS
           obtain⟨sv,scl,rf⟩:=s
           simp only[qx] at*
           have SY:j<scl.length:=kL
           cases rf with
           |true=>
            (refine Be ?_;(focus ((with_reducible apply aa.aD);(iterate 4 exact rfl);(focus (intro h_;cases h_;done));rotate_left;(first|omega|exact Nat.zero_lt_one|(simp;done))));(with_reducible apply aa.inline (hf:=Tryz.func101));(with_reducible assumption);(iterate 10 exact rfl);intro g_ aU aT;refine nz ?_;refine EH ?_;show aa .held _ _ _ [_,_,_,_,_] _ _;refine F7 ?_;intro k_ cR;refine Fp ?_;intro g_ ag bw;refine EB ?_;intro g_ ag;show aa .held _ _ _ [_,_,_,_] _ _;refine jY ?_;refine zb ?_;refine zl ?_;refine jY ?_;refine zb ?_;refine Q4 ?_;intro k_ cR;refine FU ?_;intro g_ ag bw;refine Iw ?_;intro g_ ag bw;refine HH ?_;intro g_ ag bw;refine zl ?_;refine zA (heq) ?_;refine Q4 ?_;refine FD ?_;intro g_ ag;show aa .held _ _ _ [_,_] _ _;refine aa.bL rfl rfl rfl rfl rfl rfl ?_;refine za ?_;refine Q4 ?_;intro k_ cR;refine zO ?_;refine Ak ?_;refine qJ ?_;refine d_ ?_;refine zb ?_;refine mw ?_;(with_reducible apply aa.inline (hf:=Tryz.func95));(with_reducible assumption);(iterate 10 exact rfl);intro g_ aU aT;refine Dw ?_;refine zm ?_;refine pb ?_;(with_reducible apply aa.bh);exact rfl;(first|exact .pv rfl|exact .own rfl|exact .nil rfl);(iterate 9 exact rfl);(first|omega|(simp only[List.length_map,List.length_append,List.length_cons,List.length_nil,List.length_drop,List.length_take,List.length_set,List.length_range,aL];omega));refine GQ ?_;refine dX ?_;refine wW ?_;refine J0 ?_)
            exact MZ
           |false=>
            (refine Be ?_;(focus ((with_reducible apply aa.aD);(iterate 4 exact rfl);(focus (intro h_;cases h_;done));rotate_left;(first|omega|exact Nat.zero_lt_one|(simp;done))));(with_reducible apply aa.inline (hf:=Tryz.func101));(with_reducible assumption);(iterate 10 exact rfl);intro g_ aU aT;refine nz ?_;refine EH ?_;show aa .held _ _ _ [_,_,_,_,_] _ _;refine F7 ?_;intro k_ cR;refine Fp ?_;intro g_ ag bw;refine EB ?_;intro g_ ag;show aa .held _ _ _ [_,_,_,_] _ _;refine jY ?_;refine zb ?_;refine zl ?_;refine jY ?_;refine zb ?_;refine Q4 ?_;intro k_ cR;refine FU ?_;intro g_ ag bw;refine Iw ?_;intro g_ ag bw;refine HH ?_;intro g_ ag bw;refine zl ?_;refine zA (heq) ?_;refine Q4 ?_;refine FD ?_;intro g_ ag;show aa .held _ _ _ [_,_] _ _;refine aa.bL rfl rfl rfl rfl rfl rfl ?_;refine za ?_;refine Q4 ?_;intro k_ cR;refine zO ?_;refine Ak ?_;refine qJ ?_;refine d_ ?_;refine zb ?_;refine mw ?_;(with_reducible apply aa.inline (hf:=Tryz.func95));(with_reducible assumption);(iterate 10 exact rfl);intro g_ aU aT;refine Dw ?_;refine zm ?_;refine pb ?_;(with_reducible apply aa.bh);exact rfl;(first|exact .pv rfl|exact .own rfl|exact .nil rfl);(iterate 9 exact rfl);(first|omega|(simp only[List.length_map,List.length_append,List.length_cons,List.length_nil,List.length_drop,List.length_take,List.length_set,List.length_range,aL];omega));refine GQ ?_;refine zb ?_;refine l9 ?_;refine zn ?_;refine z6 ?_;refine J0 ?_)
            exact MZ
          ·rw[decide_eq_false he] at heq
           have En:fO v syms[l[i].sym.toNat] l[i].lits s.cl[j]=false:=by unfold fO;rw[e1,decide_eq_false he];rfl
           rw[En] at uH
           (refine Be ?_;(focus ((with_reducible apply aa.aD);(iterate 4 exact rfl);(focus (intro h_;cases h_;done));rotate_left;(first|omega|exact Nat.zero_lt_one|(simp;done))));(with_reducible apply aa.inline (hf:=Tryz.func101));(with_reducible assumption);(iterate 10 exact rfl);intro g_ aU aT;refine nz ?_;refine EH ?_;show aa .held _ _ _ [_,_,_,_,_] _ _;refine F7 ?_;intro k_ cR;refine Fp ?_;intro g_ ag bw;refine EB ?_;intro g_ ag;show aa .held _ _ _ [_,_,_,_] _ _;refine jY ?_;refine zb ?_;refine zl ?_;refine jY ?_;refine zb ?_;refine Q4 ?_;intro k_ cR;refine FU ?_;intro g_ ag bw;refine Iw ?_;intro g_ ag bw;refine HH ?_;intro g_ ag bw;refine zl ?_;refine zA (heq) ?_;refine Q4 ?_;refine FD ?_;intro g_ ag;show aa .held _ _ _ [_,_] _ _;refine aa.bL rfl rfl rfl rfl rfl rfl ?_;refine za ?_;refine Q4 ?_;intro k_ cR;refine zO ?_;refine kg ?_;refine jB ?_)
           exact Ns
        ·rw[bK (l:=s.cl) (by omega)] at tA
         have jc:=cj aM (by rw[de,jU,if_neg (by rw[Hr,tA];simp)])
         rw[jc] at aV
         rw[aV]
         (refine kO ?_;refine Ep ?_;refine JS ?_;refine e6 ?_;refine Eh ?_;(with_reducible apply AW.fK 14 9 12 3);(iterate 3 exact rfl);refine kE ?_)
         (apply ax;(exact bA.two (.tmp rfl rfl) (.tmp rfl rfl));(refine uj ?_;refine fH.cons ?_ ?_;refine Le.al ?_;(first|rfl|simp);exact fH.nil))
      ·have jc:=cj aM (by rw[de,jU,if_neg (by rintro⟨_,⟨_,h⟩,_⟩;exact m2 h)])
       rw[jc] at aV
       rw[aV]
       (refine fB ?_;(focus ((with_reducible apply aa.aj);(iterate 7 exact rfl);rotate_left;omega));refine Q3 ?_;(with_reducible apply aa.inline (hf:=Tryz.func72));(with_reducible assumption);(iterate 10 exact rfl);intro g_ aU aT;refine B0 ?_;(with_reducible apply AW.bu);exact rfl;exact rfl;kernel_rfl;(with_reducible assumption);refine QC ?_;(iterate 9 refine aa.db rfl rfl rfl rfl rfl rfl (by first|omega|decide) ?_);refine zT ?_;refine e6 ?_;refine Eh ?_;(with_reducible apply AW.fK 14 9 12 3);(iterate 3 exact rfl);refine kE ?_)
       (apply ax;(exact bA.two (.tmp rfl rfl) (.tmp rfl rfl));(refine uj ?_;refine fH.cons ?_ ?_;refine Le.al ?_;(first|rfl|simp);exact fH.nil))
     ·have jc:=cj aM (by rw[de,jU,if_neg (by rintro⟨_,⟨h,_⟩,_⟩;exact m1 h)])
      rw[jc] at aV
      rw[aV]
      (refine fB ?_;(focus ((with_reducible apply aa.aj);(iterate 7 exact rfl);rotate_left;omega));refine Q3 ?_;(with_reducible apply aa.inline (hf:=Tryz.func72));(with_reducible assumption);(iterate 10 exact rfl);intro g_ aU aT;refine B0 ?_;(with_reducible apply AW.bu);exact rfl;exact rfl;kernel_rfl;(with_reducible assumption);refine zb ?_;refine D5 ?_;refine oJ ?_;refine mw ?_;refine zA (hw) ?_;refine aa.not rfl rfl rfl ?_;refine jY ?_;refine aa.ah 44 2 2 rfl rfl rfl rfl ?_;refine zl ?_;refine zb ?_;refine zl ?_;refine zs ?_;refine aa.dm rfl rfl rfl rfl rfl rfl ?_;refine zm ?_;(iterate 8 refine aa.db rfl rfl rfl rfl rfl rfl (by first|omega|decide) ?_);refine zT ?_;refine zm ?_;refine H7 ?_;refine e6 ?_;refine Eh ?_;(with_reducible apply AW.fK 14 9 12 3);(iterate 3 exact rfl);refine kE ?_)
      (apply ax;(exact bA.two (.tmp rfl rfl) (.tmp rfl rfl));(refine uj ?_;refine fH.cons ?_ ?_;refine Le.al ?_;(first|rfl|simp);exact fH.nil))
   have wh:eb (tK lH) l[i].kind=none:=by rw[mO,if_neg k1,if_neg k2,if_neg k3,if_neg k4]
   have jc:=cj aM (yE (e:=⟨v,cl,syms⟩) (s:=s) k1 k2 k3 k4)
   rw[jc] at aV
   rw[aV]
   (refine fB ?_;(focus ((with_reducible apply aa.aj);(iterate 7 exact rfl);rotate_left;omega));refine aa.pc rfl rfl rfl rfl ?_;refine nz ?_;refine pE ?_;refine za ?_;refine zB ?_;refine nz ?_;refine mN ?_;refine zm ?_;refine aa.ah 44 0 0 rfl rfl rfl rfl ?_;refine zb ?_;refine aa.wX rfl rfl rfl rfl rfl rfl rfl rfl (by with_reducible assumption) ?_;refine IC ?_;refine d_ ?_;refine tv ?_;refine zm ?_;refine EW ?_;refine wi ?_;(with_reducible apply AW.fK 14 9 12 3);(iterate 3 exact rfl);refine kE ?_)
   (apply ax;(exact bA.two (.tmp rfl rfl) (.tmp rfl rfl));(refine uj ?_;refine fH.cons ?_ ?_;refine Le.al ?_;(first|rfl|simp);exact fH.nil))
  ·rw[List.drop_eq_nil_of_le (by omega),qw] at aV
   have RC:i=l.length:=by omega
   have hR1:R.1.ref=s.ref:=by rw[aV]
   have hR2:R.2=l.length:=by rw[aV,RC];simp
   rw[hR1,hR2]
   (refine zq ?_;refine yg ?_;(with_reducible apply AW.fK 16 9 2 3);(iterate 3 exact rfl);(try refine nz ?_);refine zq ?_;refine aa.n7 rfl rfl rfl ?_;refine oV ?_;refine aa.gp rfl rfl rfl ?_;refine fL ?_)
   (apply ax;(exact bA.two (.tmp rfl rfl) (.tmp rfl rfl));(refine uj ?_;refine fH.cons ?_ ?_;refine Le.al ?_;(rfl);exact fH.nil))
end Go.Ab
