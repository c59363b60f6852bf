/- Chapter 23: the checker's run. -/
import Derived.Test.YtigjjjpcjnifhaaAtC3
import Derived.Test.YtigjjjpcjnifhaaAbZ
import Derived.Test.YtigjjjpcjnifhaaAbL3
import Derived.Test.YtigjjjpcjnifhaaAtU5
set_option linter.unusedSimpArgs false
set_option linter.unusedVariables false
namespace Go.Ab
open Go Go.Proofs
open Nat (reduceAdd reduceSub)
set_option maxRecDepth 20000
set_option maxHeartbeats 8000000
attribute [local irreducible] AW aa bM a8 AR bm a_ bs bT canon gO ed iR jS cL ay cN db
theorem wU (l:List (List Int)) (hl:l.length≤1000000):HN Try.prog 51 [.pv (dy l)] 28 1 (l.map fun c=>[ints c]):=by
 refine HN.enter (n:=8) Try.func51 rfl rfl rfl rfl rfl (by decide) fun g aY aW=>?_;(try refine nz ?_)
 by_cases h0:l=[]
 ·subst h0
  have e0:([]:List (List Int)).length=0:=rfl
  (refine nM ?_;refine zm ?_;(focus ((with_reducible apply aa.p6);(iterate 6 exact rfl);all_goals intro lC));refine kQ ?_;refine mH ?_;(all_goals skip);rotate_left;refine Ee ?_;refine zm ?_;(with_reducible apply aa.aZ);exact rfl;(first|exact .pv rfl|exact .own rfl|exact .nil rfl);(iterate 9 exact rfl);(first|omega|(simp only[List.length_map,List.length_append,List.length_cons,List.length_nil,List.length_drop,List.length_take,List.length_set,List.length_range,aE];omega));refine nz ?_;refine ot ?_;(all_goals skip);rotate_left)
  all_goals ((first|(refine eY (bD.one (.tmp rfl rfl)) ?_)|(refine eY (bD.one (.cell1 rfl rfl rfl rfl)) ?_)|(refine kC (bD.one (.tmp rfl rfl)) ?_));(first|rfl|simp))
 ·have e0:0<l.length:=List.length_pos_iff.2 h0
  have e1:¬(l.map fun c=>[ints c])=[]:=by simpa using h0
  clear h0
  (refine nM ?_;refine zm ?_;(focus ((with_reducible apply aa.p6);(iterate 6 exact rfl);all_goals intro lC));refine kQ ?_;refine mH ?_;(all_goals skip);rotate_left;refine Ee ?_;refine zm ?_;(with_reducible apply aa.aZ);exact rfl;(first|exact .pv rfl|exact .own rfl|exact .nil rfl);(iterate 9 exact rfl);(first|omega|(simp only[List.length_map,List.length_append,List.length_cons,List.length_nil,List.length_drop,List.length_take,List.length_set,List.length_range,aE];omega));refine nz ?_;refine ot ?_;(all_goals skip);rotate_left)
  ·exact absurd lC e1
  ·((first|(refine eY (bD.one (.tmp rfl rfl)) ?_)|(refine eY (bD.one (.cell1 rfl rfl rfl rfl)) ?_)|(refine kC (bD.one (.tmp rfl rfl)) ?_));(first|rfl|simp))
theorem Fg (cl:List (List Int)) (hl:cl.length≤1000000):Fn Try.prog 28 [.pv (dy cl),.clo (.func 52) [] []] (aM (cl.any fun c=>decide ((c.length:Int)=0))):=by
 refine Fn.enter (n:=9) Try.func28 rfl rfl rfl rfl rfl (by decide) fun g aY aW=>?_;(try refine nz ?_)
 (refine zq ?_;refine iw ?_;refine zm ?_;refine aa.eI rfl rfl rfl ?_;(with_reducible apply aa.inline (hf:=Try.func58));(with_reducible assumption);(iterate 10 exact rfl);intro g_ aY aW;refine nz ?_;refine nM ?_;refine zm ?_;refine iv ?_)
 (refine nz ?_;apply AW.ck [7,0,1,1006,1005,1004,1000,1001] [] (fun k:Nat=>([(8,aw k)]:List (Nat×AV))) (fun k:Nat=>([]:List (Nat×Option Ob))) (fun k:Nat=>k≤cl.length∧(cl.take k).any (fun c=>decide ((c.length:Int)=0))=false) (fun k:Nat=>cl.length - k) (0);(conv=>lhs;simp only[Nf.jJ,Nf.all,Nat.reduceBEq,reduceAdd,reduceSub]);(all_goals skip))
 ·exact⟨Nat.zero_le _,rfl⟩
 ·exact aN rfl (by(refine⟨.eq rfl rfl,?_⟩;(iterate 8 refine⟨.eq rfl rfl,?_⟩);exact trivial)) (by(exact trivial)) rfl
 rintro k ⟨hk,sK⟩
 by_cases aP:k<cl.length
 ·have vh:=ma (p:=fun c:List Int=>decide ((c.length:Int)=0)) aP
  rw[sK,Bool.false_or] at vh
  by_cases he:(cl[k].length:Int)=0
  ·rw[oN (p:=fun c:List Int=>decide ((c.length:Int)=0)) aP (decide_eq_true he)]
   (refine tb ?_;(focus ((with_reducible apply aa.ak);(iterate 7 exact rfl);rotate_left;omega));refine zr ?_;(with_reducible apply aa.inline (hf:=Try.func52));(with_reducible assumption);(iterate 10 exact rfl);intro g_ aY aW;refine np ?_;refine zm ?_;refine zn ?_;refine aa.eql rfl rfl rfl rfl rfl ?_;refine e_ ?_;refine oO ?_;refine gG ?_;refine lZ ?_;refine lP ?_;refine oO ?_;refine z8 ?_)
   (apply az;(exact bD.one (.tmp rfl rfl));(refine Le.aM ?_;(first|rfl|exact decide_eq_true (by omega))))
  ·rw[decide_eq_false he] at vh
   (refine tb ?_;(focus ((with_reducible apply aa.ak);(iterate 7 exact rfl);rotate_left;omega));refine zr ?_;(with_reducible apply aa.inline (hf:=Try.func52));(with_reducible assumption);(iterate 10 exact rfl);intro g_ aY aW;refine np ?_;refine zm ?_;refine zn ?_;refine aa.eql rfl rfl rfl rfl rfl ?_;refine e_ ?_;refine oO ?_;refine zd ?_;refine zk ?_;refine lN ?_;refine vg ?_)
   exact⟨k+1,⟨by omega,vh⟩,by omega,aN rfl (by(refine⟨.eq rfl rfl,?_⟩;(iterate 8 refine⟨.eq rfl rfl,?_⟩);exact trivial)) (by(exact trivial)) rfl⟩
 ·rw[cz (l:=cl) (by omega)] at sK
  rw[sK]
  (refine ng ?_;refine e_ ?_;refine oO ?_;refine z8 ?_)
  (apply az;(exact bD.one (.tmp rfl rfl));(refine Le.aM ?_;(first|rfl|exact decide_eq_false (by omega))))
theorem rT (e:j3):e.valid.length=e.syms.length:=by unfold j3.valid;simp
theorem Ct (e:j3) {k:Nat} (h:k<e.syms.length):e.valid[k]'(by rw[rT];exact h)=cN e.v0 e.cl0 e.syms[k]:=by simp [j3.valid]
theorem Ag (e:j3):e.valid=e.syms.map (cN e.v0 e.cl0):=rfl
theorem yd {e:j3} {s:iB} {t:bu} (h:t.kind=2):cm e s t=fS s t:=by unfold cm;rw[if_neg (by omega),if_pos h]
theorem xG {e:j3} {s:iB} {t:bu} (h:t.kind=3):cm e s t=eQ s t:=by unfold cm;rw[if_neg (by omega),if_neg (by omega),if_pos h]
theorem s7 {e:j3} {s:iB} {t:bu} (h:t.kind=4):cm e s t=jc e s t:=by unfold cm;rw[if_neg (by omega),if_neg (by omega),if_neg (by omega),if_pos h]
theorem xw {e:j3} {s:iB} {t:bu} (h1:¬t.kind=1) (h2:¬t.kind=2) (h3:¬t.kind=3) (h4:¬t.kind=4):cm e s t=none:=by unfold cm;rw[if_neg h1,if_neg h2,if_neg h3,if_neg h4]
theorem iS (e:j3) (s:iB):bX e s []=(s,0):=by unfold bX;rfl
theorem oX {α:Type} {p:α→Bool}:∀{l:List α} {j:Nat} (hj:j<l.length),(l.take j).any p=false→p l[j]=true→l.findIdx p=j
 |[],j,hj,_,_=>by simp at hj
 |x::l,0,hj,_,h=>by simp at h;simp [List.findIdx_cons,h]
 |x::l,j+1,hj,h1,h2=>by
  simp only[List.take_succ_cons,List.any_cons,Bool.or_eq_false_iff] at h1
  have:=oX (l:=l) (by simpa using hj) h1.2 (by simpa using h2)
  simp [List.findIdx_cons,h1.1,this]
theorem sB {e:j3} {s:iB} {t:bu} (h:t.kind=1):cm e s t=gV s t:=by unfold cm;rw[if_pos h]
theorem aa.Mv (j:Nat) (l:List (List Int)) {g:ar} {δ:DS} {ops:Array Oper} {rest:List Oper} {Q:Exit→DS→Prop} {dst:Option Nat} {ty:TypeId} {pos:String} {af:Array Edge} {x y z:Operand} {tys:Array TypeId} {r:Nat} {e:TypeId} {m:Int}
  (hx:δ.ev x=.own r e 1 (l.map fun c=>[ints c])) (hy:δ.ev y=aw (j:Nat)) (hz:δ.ev z=aw m) (hr:δ.ob r=some .row) (ho:aK x=true) (ho':aK y=true) (lA:aK z=true) (hd:bk δ.n dst=true) (hm:m=(j:Int)+1) (hi:j<l.length)
  (hK:aa .plain Try.prog g ops rest Q ((δ.cj (AV.kill r)).au dst (.own r e 1 ((l.eraseIdx j).map fun c=>[ints c])))):
  aa .plain Try.prog g ops (⟨dst,.call {callee:=.value (.func 67),args:= #[x,y,z],argTypes:=tys},ty,pos,af,none⟩::rest) Q δ:=aa.Gv Kc hx hy hz hr ho ho' lA hd hm hi hK
theorem AW.ft (id t u i:Nat) {P:Program} {g:ar} {δ:DS} {Q:Exit→DS→Prop} {b:Bool} {l:Array Oper} {p:PV} {c0 c1 c2 c3 c4:AV} {rf:Bool} (h:δ.get t=.ptr i 0) (hu:δ.get u=.pv p) (hb:δ.ob i=some (.box [c0,c1,c2,c3,c4,aM rf]))
  {cc:Code} (hK:AW P g ((Code.region id l b).seq cc) Q {n:=δ.n,env:=[(t,.rptr [.any,.any,.any,.any,.any,.lit (.bool rf)]),(u,.pv p)],objs:=[],nx:=δ.nx}):AW P g ((Code.region id l b).seq cc) Q δ:=
 AW.aN (δ':={n:=δ.n,env:=[(t,.rptr [.any,.any,.any,.any,.any,.lit (.bool rf)]),(u,.pv p)],objs:=[],nx:=δ.nx}) (Go.Ab.aN rfl ⟨by rw[h];exact .fbox hb rfl (.cons (.any _) (.cons (.any _) (.cons (.any _) (.cons (.any _) (.cons (.any _) (.cons (.pv _) .nil)))))),by rw[hu];exact .eq rfl rfl,trivial⟩ trivial rfl) hK
def kV:List (Int×Go.Fn):=[(1,.func 47),(2,.func 48),(3,.func 49),(4,.func 50)]
theorem mj (k:Int):dQ (so kV) k=if k=1 then some (tv (.func 47)) else if k=2 then some (tv (.func 48)) else if k=3 then some (tv (.func 49)) else if k=4 then some (tv (.func 50)) else none:=rfl
theorem Ec:some (Ob.mp (dY ([]++ [(1,tv (.func 47))]++ [(2,tv (.func 48))]++ [(3,tv (.func 49))]++ [(4,tv (.func 50))])))=some (Ob.mp (dY (so kV))):=rfl
theorem ib {v:Int} {cl:List (List Int)} {sy:List Int} (h:cN v cl sy=true):(sy.length:Int)=v∧ay v sy=true:=by
 unfold cN at h
 simp only[Bool.and_eq_true,decide_eq_true_eq] at h
 exact⟨h.1.1.1,h.1.1.2⟩
attribute [local irreducible] so C2 kV bX cm j3.valid
theorem Bd (v:Int) (cl:List (List Int)) (syms:List (List Int)) (l:List bu) (hs0:gU 1000 (ct v cl)) (zW:syms.length≤1000∧∀c∈syms,c.length≤1000) (hl:wS l≤900000∧∀t∈l,t.lits.length≤900):
  Fn Try.prog 23 [Dg v cl,.pv (dy syms),.pv (steps l)] (.tup [.rptr [.any,.any,.any,.any,.any,.lit (.bool (bX ⟨v,cl,syms⟩ (ct v cl) l).1.ref)],aw ((bX ⟨v,cl,syms⟩ (ct v cl) l).2:Nat)]):=by
 have hf:Ie v cl:=hs0.f (by omega)
 have B7:cl.length≤1000:=hs0.len
 have hv0:0≤v∧v≤20000:=hs0.hv
 have hlen:=BA l
 have Ho:=wU cl (by omega)
 have ha0:=Fg cl (by omega)
 have MX:ct v cl=⟨v,cl,cl.any fun c=>decide ((c.length:Int)=0)⟩:=rfl
 refine Fn.enter (n:=83) Try.func23 rfl rfl rfl rfl rfl (by decide) fun g aY aW=>?_;(try refine nz ?_)
 (refine zq ?_;refine aa.box rfl rfl rfl rfl ?_;refine nz ?_;refine ju ?_;refine fV ?_;refine aa.makeMap (t:=82) rfl ?_;refine nz ?_;refine Dr ?_;refine nz ?_;refine Dr ?_;refine nz ?_;refine Dr ?_;refine nz ?_;refine Dr ?_;refine nz ?_;refine aa.yY rfl rfl rfl ?_;refine aa.tR rfl rfl rfl ?_;refine zd ?_;refine zo ?_;refine AW.bE [0,1,2,3,6,7,8] [] rfl (by assumption) (by kernel_rfl) (by kernel_rfl) rfl ?_;show aa .held _ _ _ [_,_,_,_,_,_,_] _ _;refine ry ?_;refine uV ?_;refine ry ?_;refine zm ?_;refine Q4 ?_;intro k_ cI;refine nz ?_;refine AR.aS (i:=4) rfl (by kernel_rfl) rfl ?_;intro g_ ag bq;(with_reducible apply aa.F3 (Ho));(repeat (first|exact .nil|(refine .cons rfl ?_ ?_;(first|exact .pv _|exact .own _ _ _ _ rfl|exact .nil _|exact .any _|exact .rptr _|(refine .uJ ?_;repeat (first|exact .nil|(refine .cons ?_ ?_;(first|exact .pv _|exact .own _ _ _ _ rfl|exact .nil _))))))));exact rfl;refine fG ?_;refine AR.free 5 (by kernel_rfl) rfl rfl rfl (bh.build 24 [0,1] rfl rfl rfl rfl rfl rfl rfl rfl) ?_;(try refine nz ?_);refine AR.free 9 (by kernel_rfl) rfl rfl rfl (bh.build 56 [0,2,3] rfl rfl rfl rfl rfl rfl rfl rfl) ?_;(try refine nz ?_);refine AR.aS (i:=10) rfl (by kernel_rfl) rfl ?_;intro g_ ag bq;refine aa.box rfl rfl rfl rfl ?_;refine fG ?_;refine AR.cU [11] (by kernel_rfl) (by kernel_rfl) (by kernel_rfl) (by kernel_rfl) ?_;intro g_ ag;show aa .held _ _ _ [_] _ _;refine aa.jw rfl rfl rfl ?_;refine Q4 ?_;intro k_ cI;refine nz ?_;refine DK ?_;refine qI ?_;refine uV ?_;(refine aa.JF ha0 (.cons rfl (.pv _) .nil) rfl rfl (fun h=>by cases h) ?_);(try refine nz ?_);refine aa.aJ rfl rfl rfl ?_;refine aa.ah 56 4 5 rfl rfl rfl rfl ?_;refine xO ?_;refine zd ?_;refine im ?_;refine iv ?_)
 refine AW.aN (δ':={n:=83,env:=[(8,.pv (.mp (C2 kV))),(37,aw 0),(36,aw syms.length),(35,.pv (dy syms)),(9,.ptr 3 0),(3,.ptr 0 0),(2,.pv (steps l))],objs:=[(3,some (.box [aw v,.own 2 28 1 (cl.map fun c=>[ints c]),aw v,.pv (dy syms),.pv (.lit (.slice none 0 0)),aM (cl.any fun c=>decide ((c.length:Int)=0))])),(2,some .row),(0,some (.box [aw v,.pv (dy cl)]))],nx:=4}) (Go.Ab.aN rfl ⟨.fns (l:=kV) Ec rfl,.eq rfl rfl,.eq rfl rfl,.eq rfl rfl,.eq rfl rfl,.eq rfl rfl,.eq rfl rfl,trivial⟩ ⟨.box _ rfl ⟨.eq rfl rfl,.eq rfl rfl,.eq rfl rfl,.eq rfl rfl,.eq rfl rfl,.eq rfl rfl,trivial⟩,.row rfl,.box _ rfl ⟨.eq rfl rfl,.eq rfl rfl,trivial⟩,trivial⟩ rfl) ?_
 (apply AW.ck [8,36,35,9,3,2] [2,0] (fun i:Nat=>([(37,aw i)]:List (Nat×AV))) (fun i:Nat=>([(3,some (.box [aw v,.own 2 28 1 (cl.map fun c=>[ints c]),aw v,.pv (dy syms),.own 4 4 1 (((syms.take i).map (cN v cl)).map jj),aM (cl.any fun c=>decide ((c.length:Int)=0))])),(4,some .row)]:List (Nat×Option Ob))) (fun i:Nat=>i≤syms.length) (fun i:Nat=>syms.length - i) (0);(conv=>lhs;simp only[Nf.jJ,Nf.all,Nat.reduceBEq,reduceAdd,reduceSub]);(all_goals skip))
 ·exact Nat.zero_le _
 ·exact Q7
 rintro i hi
 by_cases aP:i<syms.length
 ·have Qj:=uG v cl syms[i] hf (by have:=zW.2 _ (List.getElem_mem aP);omega)
  have pA:(syms.take (i+1)).map (cN v cl)=(syms.take i).map (cN v cl)++ [cN v cl syms[i]]:=by rw[bd aP,List.map_append];rfl
  have Ao:((syms.take i).map (cN v cl)).length≤1000:=by simp;omega
  (refine Dc ?_;(focus ((with_reducible apply aa.ak);(iterate 7 exact rfl);rotate_left;omega));refine zr ?_;refine eD ?_;refine AW.bE [0,1,2,3,4,5,6] [12] rfl (by assumption) (by kernel_rfl) (by kernel_rfl) rfl ?_;show aa .held _ _ _ [_,_,_,_,_,_,_] _ _;refine zg ?_;refine aa.ah 56 3 4 rfl rfl rfl rfl ?_;refine zb ?_;refine oy ?_;refine zm ?_;refine Q4 ?_;intro k_ cI;refine nz ?_;refine AR.aS (i:=7) rfl (by kernel_rfl) rfl ?_;intro g_ ag bq;refine zA (Qj) ?_;refine Q4 ?_;refine AR.aS (i:=8) rfl (by kernel_rfl) rfl ?_;intro g_ ag bq;refine oQ ?_;refine D6 ?_;intro g_ ag bq;(with_reducible apply aa.aZ);exact rfl;(first|exact .pv rfl|exact .own rfl|exact .nil rfl);(iterate 9 exact rfl);(first|omega|(simp only[List.length_map,List.length_append,List.length_cons,List.length_nil,List.length_drop,List.length_take,List.length_set,List.length_range,aE];omega));refine fG ?_;refine AR.cU [10,11] (by kernel_rfl) (by kernel_rfl) (by kernel_rfl) (by kernel_rfl) ?_;intro g_ ag;show aa .held _ _ _ [_,_] _ _;refine aa.aJ rfl rfl rfl ?_;refine aa.ah 56 3 4 rfl rfl rfl rfl ?_;refine Q4 ?_;intro k_ cI;refine nz ?_;refine mA ?_;intro g_ ag aH;refine xO ?_;refine xt ?_;refine yu ?_;refine vg ?_)
  exact⟨i+1,by omega,by omega,aN rfl (by(refine⟨.bG (by first|rfl|(rw[pA,List.map_append];rfl)),?_⟩;refine⟨.eq rfl rfl,?_⟩;refine⟨.bG (by first|rfl|(rw[pA,List.map_append];rfl)),?_⟩;refine⟨.bz (by first|rfl|(rw[pA,List.map_append];rfl)),?_⟩;(iterate 2 refine⟨.eq rfl rfl,?_⟩);refine⟨.bz (by first|rfl|(rw[pA,List.map_append];rfl)),?_⟩;exact trivial)) (by(refine⟨.box _ rfl ?_,?_⟩;refine⟨.bG (by first|rfl|(rw[pA,List.map_append];rfl)),?_⟩;refine⟨.aj (by first|rfl|(rw[pA,List.map_append];rfl)) rfl,?_⟩;refine⟨.bG (by first|rfl|(rw[pA,List.map_append];rfl)),?_⟩;refine⟨.bz (by first|rfl|(rw[pA,List.map_append];rfl)),?_⟩;refine⟨.aj (by first|rfl|(rw[pA,List.map_append];rfl)) rfl,?_⟩;refine⟨.eX (by first|rfl|(rw[pA,List.map_append];rfl)),?_⟩;exact trivial;(iterate 2 refine⟨.row rfl,?_⟩);refine⟨.box _ rfl ?_,?_⟩;refine⟨.bG (by first|rfl|(rw[pA,List.map_append];rfl)),?_⟩;refine⟨.bz (by first|rfl|(rw[pA,List.map_append];rfl)),?_⟩;(iterate 2 exact trivial))) rfl⟩
 ·rw[cz (l:=syms) (by omega)]
  have D_:=rT ⟨v,cl,syms⟩
  have Oz:=(Ag ⟨v,cl,syms⟩).symm
  simp only at Oz D_
  rw[Oz]
  have hr0:bX ⟨v,cl,syms⟩ (ct v cl) l=((bX ⟨v,cl,syms⟩ (ct v cl) (l.drop 0)).1,(bX ⟨v,cl,syms⟩ (ct v cl) (l.drop 0)).2+0):=by rw[List.drop_zero];rfl
  generalize bX ⟨v,cl,syms⟩ (ct v cl) l=R at hr0 ⊢
  (refine zq ?_;refine xB ?_;refine iZ ?_;refine zm ?_;refine iv ?_)
  clear hi aP
  (refine nz ?_;apply AW.ck [55,54,8,9,2] [4,2] (fun p:Nat×iB=>([(56,aw p.1)]:List (Nat×AV))) (fun p:Nat×iB=>([(3,some (.box [aw p.2.vars,.own 2 28 1 (p.2.cl.map fun c=>[ints c]),aw v,.pv (dy syms),.own 4 4 1 ((j3.valid ⟨v,cl,syms⟩).map jj),aM p.2.ref]))]:List (Nat×Option Ob))) (fun p:Nat×iB=>p.1≤l.length∧gU (1000+wS (l.take p.1)) p.2∧R=((bX ⟨v,cl,syms⟩ p.2 (l.drop p.1)).1,(bX ⟨v,cl,syms⟩ p.2 (l.drop p.1)).2+p.1)) (fun p:Nat×iB=>l.length - p.1) ((0,ct v cl));(conv=>lhs;simp only[Nf.jJ,Nf.all,Nat.reduceBEq,reduceAdd,reduceSub]);(all_goals skip))
  ·exact⟨Nat.zero_le _,hs0,hr0⟩
  ·exact Q7
  rintro⟨i,s⟩ ⟨hi,th,aR⟩
  simp only at hi th aR ⊢
  have PT:=xP l i
  by_cases aP:i<l.length
  ·have hL:=hl.2 _ (List.getElem_mem aP)
   have It:=th.hv
   have N8:=th.f (by omega)
   have Gj:=th.len
   have hw:=jt s.vars l[i].lits (by omega)
   by_cases k1:l[i].kind=1
   ·have vq:dQ (so kV) l[i].kind=some (tv (.func 47)):=by rw[mj,if_pos k1]
    have dp:cm ⟨v,cl,syms⟩ s l[i]=gV s l[i]:=sB k1
    by_cases c1:l[i].sym=0
    ·cases c2:ay s.vars l[i].lits with
     |false=>
      rw[c2] at hw
      have iY:=bY aP (by rw[dp,gV,if_neg (by rw[c2];simp)])
      rw[iY] at aR
      rw[aR]
      (refine fF ?_;(focus ((with_reducible apply aa.ak);(iterate 7 exact rfl);rotate_left;omega));refine Q3 ?_;(with_reducible apply aa.inline (hf:=Try.func47));(with_reducible assumption);(iterate 10 exact rfl);intro g_ aY aW;refine HK ?_;show aa .held _ _ _ [_,_,_,_,_,_,_,_,_,_,_] _ _;refine Ib ?_;refine I1 ?_;refine aa.ah 30 1 1 rfl rfl rfl rfl ?_;refine zy ?_;refine zb ?_;refine Q4 ?_;intro k_ cI;refine nz ?_;refine AR.aS (i:=11) rfl (by kernel_rfl) rfl ?_;intro g_ ag bq;refine zy ?_;refine zA (hw) ?_;refine Q4 ?_;refine AR.cU [12,13,14,15,16,17,18,19,20] (by kernel_rfl) (by kernel_rfl) (by kernel_rfl) (by kernel_rfl) ?_;intro g_ ag;show aa .held _ _ _ [_,_,_,_,_,_,_,_,_] _ _;refine A1 ?_;refine zm ?_;(iterate 6 refine aa.bV rfl rfl rfl rfl rfl rfl rfl ?_);refine Q4 ?_;intro k_ cI;refine nz ?_;refine AR.aS (i:=21) rfl (by kernel_rfl) rfl ?_;intro g_ ag bq;refine ss ?_;refine AR.cU [22,23] (by kernel_rfl) (by kernel_rfl) (by kernel_rfl) (by kernel_rfl) ?_;intro g_ ag;show aa .held _ _ _ [_,_] _ _;refine w7 ?_;refine Q4 ?_;intro k_ cI;refine nz ?_;refine GX ?_;(with_reducible apply AW.ft 14 9 12 3);(iterate 3 exact rfl);refine j2 ?_)
      (apply az;(exact bD.two (.tmp rfl rfl) (.tmp rfl rfl));(refine tt ?_;refine fu.cons ?_ ?_;refine Le.aw ?_;(first|rfl|simp);exact fu.nil))
     |true=>
      rw[c2] at hw
      have Ap:=xN s.vars s.cl l[i].lits N8 (by omega) c2
      cases c3:db s.vars s.cl l[i].lits with
      |false=>
       rw[c3] at Ap
       have iY:=bY aP (by rw[dp,gV,if_neg (by rw[c3];simp)])
       rw[iY] at aR
       rw[aR]
       (refine fF ?_;(focus ((with_reducible apply aa.ak);(iterate 7 exact rfl);rotate_left;omega));refine Q3 ?_;(with_reducible apply aa.inline (hf:=Try.func47));(with_reducible assumption);(iterate 10 exact rfl);intro g_ aY aW;refine sr ?_;(with_reducible apply AW.bn);exact rfl;exact rfl;kernel_rfl;(with_reducible assumption);refine Hj ?_;(with_reducible apply aa.sf);(iterate 3 exact rfl);(repeat' first|exact Sub.nil|apply Sub.take|apply Sub.skip);(iterate 3 exact rfl);refine Gn ?_;refine uQ ?_;(with_reducible apply AW.ft 14 9 12 3);(iterate 3 exact rfl);refine j2 ?_)
       (apply az;(exact bD.two (.tmp rfl rfl) (.tmp rfl rfl));(refine tt ?_;refine fu.cons ?_ ?_;refine Le.aw ?_;(first|rfl|simp);exact fu.nil))
      |true=>
       rw[c3] at Ap
       have yy:cm ⟨v,cl,syms⟩ s l[i]=some (qN s l[i].lits):=by rw[dp,gV,if_pos ⟨c1,c2,c3⟩]
       have iY:=kD aP yy
       rw[iY] at aR
       have zQ:=th.kY hL yy
       obtain⟨sv,scl,rf⟩:=s
       simp only[qN] at*
       cases rf with
       |true=>
        (refine fF ?_;(focus ((with_reducible apply aa.ak);(iterate 7 exact rfl);rotate_left;omega));refine Q3 ?_;(with_reducible apply aa.inline (hf:=Try.func47));(with_reducible assumption);(iterate 10 exact rfl);intro g_ aY aW;refine sr ?_;(with_reducible apply AW.bn);exact rfl;exact rfl;kernel_rfl;(with_reducible assumption);refine Hj ?_;(with_reducible apply aa.sf);(iterate 3 exact rfl);(repeat' first|exact Sub.nil|apply Sub.take|apply Sub.skip);(iterate 3 exact rfl);refine Gn ?_;refine mT ?_;refine aa.a7 rfl rfl rfl ?_;refine ml ?_;(with_reducible apply aa.inline (hf:=Try.func65));(with_reducible assumption);(iterate 10 exact rfl);intro g_ aY aW;refine CT ?_;refine zm ?_;refine oQ ?_;(with_reducible apply aa.aZ);exact rfl;(first|exact .pv rfl|exact .own rfl|exact .nil rfl);(iterate 9 exact rfl);(first|omega|(simp only[List.length_map,List.length_append,List.length_cons,List.length_nil,List.length_drop,List.length_take,List.length_set,List.length_range,aE];omega));refine FM ?_;refine cJ ?_;refine w_ ?_;refine Ij ?_)
        exact Lp
       |false=>
        (refine fF ?_;(focus ((with_reducible apply aa.ak);(iterate 7 exact rfl);rotate_left;omega));refine Q3 ?_;(with_reducible apply aa.inline (hf:=Try.func47));(with_reducible assumption);(iterate 10 exact rfl);intro g_ aY aW;refine sr ?_;(with_reducible apply AW.bn);exact rfl;exact rfl;kernel_rfl;(with_reducible assumption);refine Hj ?_;(with_reducible apply aa.sf);(iterate 3 exact rfl);(repeat' first|exact Sub.nil|apply Sub.take|apply Sub.skip);(iterate 3 exact rfl);refine Gn ?_;refine mT ?_;refine aa.a7 rfl rfl rfl ?_;refine ml ?_;(with_reducible apply aa.inline (hf:=Try.func65));(with_reducible assumption);(iterate 10 exact rfl);intro g_ aY aW;refine CT ?_;refine zm ?_;refine oQ ?_;(with_reducible apply aa.aZ);exact rfl;(first|exact .pv rfl|exact .own rfl|exact .nil rfl);(iterate 9 exact rfl);(first|omega|(simp only[List.length_map,List.length_append,List.length_cons,List.length_nil,List.length_drop,List.length_take,List.length_set,List.length_range,aE];omega));refine FM ?_;refine cJ ?_;refine Fi ?_;refine Ij ?_)
        exact Lp
    ·have iY:=bY aP (by rw[dp,gV,if_neg (fun h=>c1 h.1)])
     rw[iY] at aR
     rw[aR]
     (refine fF ?_;(focus ((with_reducible apply aa.ak);(iterate 7 exact rfl);rotate_left;omega));refine Q3 ?_;(with_reducible apply aa.inline (hf:=Try.func47));(with_reducible assumption);(iterate 10 exact rfl);intro g_ aY aW;refine HK ?_;show aa .held _ _ _ [_,_,_,_,_,_,_,_,_,_,_] _ _;refine Ib ?_;refine EO ?_;refine Q4 ?_;intro k_ cI;refine nz ?_;refine AR.aS (i:=11) rfl (by kernel_rfl) rfl ?_;intro g_ ag bq;refine EF ?_;refine Q4 ?_;refine AR.cU [12,13,14,15,16,17,18,19,20] (by kernel_rfl) (by kernel_rfl) (by kernel_rfl) (by kernel_rfl) ?_;intro g_ ag;show aa .held _ _ _ [_,_,_,_,_,_,_,_,_] _ _;refine EF ?_;refine zT ?_;refine zm ?_;(iterate 6 refine aa.bV rfl rfl rfl rfl rfl rfl rfl ?_);refine Q4 ?_;intro k_ cI;refine nz ?_;refine AR.aS (i:=21) rfl (by kernel_rfl) rfl ?_;intro g_ ag bq;refine ss ?_;refine AR.cU [22,23] (by kernel_rfl) (by kernel_rfl) (by kernel_rfl) (by kernel_rfl) ?_;intro g_ ag;show aa .held _ _ _ [_,_] _ _;refine w7 ?_;refine Q4 ?_;intro k_ cI;refine nz ?_;refine GX ?_;(with_reducible apply AW.ft 14 9 12 3);(iterate 3 exact rfl);refine j2 ?_)
     (apply az;(exact bD.two (.tmp rfl rfl) (.tmp rfl rfl));(refine tt ?_;refine fu.cons ?_ ?_;refine Le.aw ?_;(first|rfl|simp);exact fu.nil))
   by_cases k2:l[i].kind=2
   ·have vq:dQ (so kV) l[i].kind=some (tv (.func 48)):=by rw[mj,if_neg k1,if_pos k2]
    have dp:cm ⟨v,cl,syms⟩ s l[i]=fS s l[i]:=yd k2
    by_cases c1:l[i].sym=0
    ·cases c2:ay s.vars l[i].lits with
     |false=>
      rw[c2] at hw
      have iY:=bY aP (by rw[dp,fS,if_neg (by rw[c2];simp)])
      rw[iY] at aR
      rw[aR]
      (refine fF ?_;(focus ((with_reducible apply aa.ak);(iterate 7 exact rfl);rotate_left;omega));refine Q3 ?_;(with_reducible apply aa.inline (hf:=Try.func48));(with_reducible assumption);(iterate 10 exact rfl);intro g_ aY aW;refine sr ?_;(with_reducible apply AW.bn);exact rfl;exact rfl;kernel_rfl;(with_reducible assumption);refine G2 ?_;refine uQ ?_;(with_reducible apply AW.ft 14 9 12 3);(iterate 3 exact rfl);refine j2 ?_)
      (apply az;(exact bD.two (.tmp rfl rfl) (.tmp rfl rfl));(refine tt ?_;refine fu.cons ?_ ?_;refine Le.aw ?_;(first|rfl|simp);exact fu.nil))
     |true=>
      rw[c2] at hw
      have vp:=gK l[i].lits (by omega)
      (refine fF ?_;(focus ((with_reducible apply aa.ak);(iterate 7 exact rfl);rotate_left;omega));refine Q3 ?_;(with_reducible apply aa.inline (hf:=Try.func48));(with_reducible assumption);(iterate 10 exact rfl);intro g_ aY aW;refine sr ?_;(with_reducible apply AW.bn);exact rfl;exact rfl;kernel_rfl;(with_reducible assumption);refine G2 ?_;refine mT ?_;refine ml ?_;refine zP (vp) ?_;refine sZ ?_;refine xO ?_;refine zd ?_;refine zq ?_;refine jG ?_;refine aa.ah 56 0 0 rfl rfl rfl rfl ?_;refine uV ?_;refine aa.gQ rfl rfl rfl ?_;(with_reducible apply aa.inline (hf:=Try.func58));(with_reducible assumption);(iterate 10 exact rfl);intro g_ aY aW;refine nz ?_;refine nM ?_;refine Bn ?_;refine zm ?_;refine pT ?_)
      (refine nz ?_;apply AW.ck [7,0,1,1029,1028,1027,1026,1025,1024,1005,1015,1014,1013,1012,1009,1008,1004,1000,2073,2072,2071,2070,2069,2068,2015,2014,2012,2013,2056,2055,2054,2008,2009,2002] [7,6,5,3,4,2] (fun j:Nat=>([(8,aw j)]:List (Nat×AV))) (fun j:Nat=>([]:List (Nat×Option Ob))) (fun j:Nat=>j≤s.cl.length∧(s.cl.take j).any (Ft l[i].lits)=false) (fun j:Nat=>s.cl.length - j) (0);(conv=>lhs;simp only[Nf.jJ,Nf.all,Nat.reduceBEq,reduceAdd,reduceSub]);(all_goals skip))
      ·exact⟨Nat.zero_le _,rfl⟩
      ·exact Q7
      rintro j ⟨hj,sK⟩
      by_cases kR:j<s.cl.length
      ·obtain⟨d1,d2⟩:=N8.dO _ (List.getElem_mem kR)
       have dt:=gK s.cl[j] (by omega)
       have heq:=nF (canon s.cl[j]) (canon l[i].lits)
       have vh:=ma (p:=Ft l[i].lits) kR
       rw[sK,Bool.false_or] at vh
       by_cases he:canon s.cl[j]=canon l[i].lits
       ·rw[decide_eq_true he] at heq
        have C_:Ft l[i].lits s.cl[j]=true:=decide_eq_true he
        have yy:cm ⟨v,cl,syms⟩ s l[i]=some ⟨s.vars,s.cl.eraseIdx j,s.ref⟩:=by rw[dp,fS,if_pos ⟨c1,c2,oN kR C_⟩,oX kR sK C_]
        have iY:=kD aP yy
        rw[iY] at aR
        have zQ:=th.kY hL yy
        (refine yV ?_;(focus ((with_reducible apply aa.aC);(iterate 4 exact rfl);exact(fun h_=>by cases h_);rotate_left;(first|omega|exact Nat.zero_lt_one|(simp;done))));(with_reducible apply aa.inline (hf:=Try.func66));(with_reducible assumption);(iterate 10 exact rfl);intro g_ aY aW;refine nz ?_;refine jD ?_;refine AW.bE [0,2] [] rfl (by assumption) (by kernel_rfl) (by kernel_rfl) rfl ?_;show aa .held _ _ _ [_,_] _ _;refine zm ?_;refine zb ?_;refine Q4 ?_;intro k_ cI;refine nz ?_;refine AR.aS (i:=1) rfl (by kernel_rfl) rfl ?_;intro g_ ag bq;refine zP (dt) ?_;refine Q4 ?_;refine AR.aS (i:=3) rfl (by kernel_rfl) rfl ?_;intro g_ ag bq;refine zA (heq) ?_;refine Q4 ?_;refine AR.cU [4] (by kernel_rfl) (by kernel_rfl) (by kernel_rfl) (by kernel_rfl) ?_;intro g_ ag;show aa .held _ _ _ [_] _ _;refine za ?_;refine Q4 ?_;intro k_ cI;refine nz ?_;refine zw ?_;refine rj ?_;refine lZ ?_;refine lP ?_;refine oO ?_;refine jX ?_;refine mc ?_;refine zs ?_;refine mT ?_;refine zg ?_;refine aa.ah 56 0 0 rfl rfl rfl rfl ?_;refine uV ?_;(iterate 2 refine zm ?_);refine zj ?_;(refine aa.Mv j s.cl rfl rfl rfl rfl rfl rfl rfl rfl (by omega) (by omega) ?_);(try refine nz ?_);refine BM ?_;refine aa.ah 24 1 1 rfl rfl rfl rfl ?_;refine xO ?_;refine zd ?_;refine zq ?_;refine e_ ?_;refine oO ?_;refine FU ?_;refine oz ?_;refine mR ?_)
        exact⟨(i+1,_),⟨by show i+1≤l.length;omega,by show gU (1000+wS (l.take (i+1))) _;rw[sR aP,← Nat.add_assoc];exact zQ,by show _=(_,_+(i+1));rw[aR];simp [Nat.add_assoc,Nat.add_comm 1 i]⟩,by show l.length - (i+1)<l.length - i;omega,aN rfl (by(refine⟨.bG (by first|with_reducible rfl|(rfl)),?_⟩;refine⟨.bG (by first|with_reducible rfl|(rfl)),?_⟩;refine⟨.bz (by first|with_reducible rfl|(rfl)),?_⟩;(iterate 2 refine⟨.eq rfl rfl,?_⟩);refine⟨.bz (by first|with_reducible rfl|(rfl)),?_⟩;exact trivial)) (by(refine⟨.box _ rfl ?_,?_⟩;refine⟨.bG (by first|with_reducible rfl|(rfl)),?_⟩;refine⟨.aj (by first|with_reducible rfl|(rfl)) rfl,?_⟩;refine⟨.bG (by first|with_reducible rfl|(rfl)),?_⟩;refine⟨.bz (by first|with_reducible rfl|(rfl)),?_⟩;refine⟨.aj (by first|with_reducible rfl|(rfl)) rfl,?_⟩;refine⟨.eX (by first|with_reducible rfl|(rfl)),?_⟩;exact trivial;(iterate 2 refine⟨.row rfl,?_⟩);exact trivial)) rfl⟩
       ·rw[decide_eq_false he] at heq
        have C_:Ft l[i].lits s.cl[j]=false:=decide_eq_false he
        rw[C_] at vh
        (refine yV ?_;(focus ((with_reducible apply aa.aC);(iterate 4 exact rfl);exact(fun h_=>by cases h_);rotate_left;(first|omega|exact Nat.zero_lt_one|(simp;done))));(with_reducible apply aa.inline (hf:=Try.func66));(with_reducible assumption);(iterate 10 exact rfl);intro g_ aY aW;refine nz ?_;refine jD ?_;refine AW.bE [0,2] [] rfl (by assumption) (by kernel_rfl) (by kernel_rfl) rfl ?_;show aa .held _ _ _ [_,_] _ _;refine zm ?_;refine zb ?_;refine Q4 ?_;intro k_ cI;refine nz ?_;refine AR.aS (i:=1) rfl (by kernel_rfl) rfl ?_;intro g_ ag bq;refine zP (dt) ?_;refine Q4 ?_;refine AR.aS (i:=3) rfl (by kernel_rfl) rfl ?_;intro g_ ag bq;refine zA (heq) ?_;refine Q4 ?_;refine AR.cU [4] (by kernel_rfl) (by kernel_rfl) (by kernel_rfl) (by kernel_rfl) ?_;intro g_ ag;show aa .held _ _ _ [_] _ _;refine za ?_;refine Q4 ?_;intro k_ cI;refine nz ?_;refine zw ?_;refine oz ?_;refine vg ?_)
        exact LJ
      ·rw[cz (l:=s.cl) (by omega)] at sK
       have iY:=bY aP (by rw[dp,fS,if_neg (by rw[sK];simp)])
       rw[iY] at aR
       rw[aR]
       (refine ng ?_;refine e_ ?_;refine oO ?_;refine jX ?_;refine mc ?_;refine zs ?_;refine uQ ?_;(with_reducible apply AW.ft 14 9 12 3);(iterate 3 exact rfl);refine j2 ?_)
       (apply az;(exact bD.two (.tmp rfl rfl) (.tmp rfl rfl));(refine tt ?_;refine fu.cons ?_ ?_;refine Le.aw ?_;(first|rfl|simp);exact fu.nil))
    ·have iY:=bY aP (by rw[dp,fS,if_neg (fun h=>c1 h.1)])
     rw[iY] at aR
     rw[aR]
     (refine fF ?_;(focus ((with_reducible apply aa.ak);(iterate 7 exact rfl);rotate_left;omega));refine Q3 ?_;(with_reducible apply aa.inline (hf:=Try.func48));(with_reducible assumption);(iterate 10 exact rfl);intro g_ aY aW;refine HK ?_;show aa .held _ _ _ [_,_,_,_,_,_,_,_,_,_,_] _ _;refine Ib ?_;refine EO ?_;refine Q4 ?_;intro k_ cI;refine nz ?_;refine AR.aS (i:=11) rfl (by kernel_rfl) rfl ?_;intro g_ ag bq;refine EF ?_;refine Q4 ?_;refine Hk ?_;intro g_ ag;show aa .held _ _ _ [_,_] _ _;refine EF ?_;refine zT ?_;refine Q4 ?_;intro k_ cI;refine nz ?_;refine GX ?_;(with_reducible apply AW.ft 14 9 12 3);(iterate 3 exact rfl);refine j2 ?_)
     (apply az;(exact bD.two (.tmp rfl rfl) (.tmp rfl rfl));(refine tt ?_;refine fu.cons ?_ ?_;refine Le.aw ?_;(first|rfl|simp);exact fu.nil))
   by_cases k3:l[i].kind=3
   ·have vq:dQ (so kV) l[i].kind=some (tv (.func 49)):=by rw[mj,if_neg k1,if_neg k2,if_pos k3]
    have dp:cm ⟨v,cl,syms⟩ s l[i]=eQ s l[i]:=xG k3
    have FL:=jt s.vars (l[i].lits.drop 1) (by omega)
    have xT:(l[i].lits.drop 1).length=l[i].lits.length - 1:=List.length_drop
    by_cases d1:l[i].sym=0
    ·by_cases d2:2≤l[i].lits.length
     ·have d2':¬(l[i].lits.length:Int)<2:=by omega
      have h0:l[i].lits.getD 0 0=l[i].lits[0]:=by rw[List.getD_eq_getElem?_getD,List.getElem?_eq_getElem (by omega)];rfl
      by_cases d3:l[i].lits[0]=s.vars+1
      ·have d3':l[i].lits[(0:Int).toNat]'(by simp;omega)=s.vars+1:=d3
       by_cases d4:l[i].lits[0]≤20000
       ·have d4':l[i].lits[(0:Int).toNat]'(by simp;omega)≤20000:=d4
        cases d5:ay s.vars (l[i].lits.drop 1) with
        |false=>
         rw[d5] at FL
         have iY:=bY aP (by rw[dp,eQ,if_neg (by rintro⟨_,_,_,_,h⟩;rw[d5] at h;cases h)])
         rw[iY] at aR
         rw[aR]
         (refine fF ?_;(focus ((with_reducible apply aa.ak);(iterate 7 exact rfl);rotate_left;omega));refine Q3 ?_;(with_reducible apply aa.inline (hf:=Try.func49));(with_reducible assumption);(iterate 10 exact rfl);intro g_ aY aW;refine sr ?_;(with_reducible apply AW.bn);exact rfl;exact rfl;kernel_rfl;(with_reducible assumption);refine yM ?_;refine s6 ?_;(focus ((with_reducible apply aa.bH);(iterate 7 exact rfl);omega;rotate_left;(first|omega|exact Nat.zero_lt_one|(simp;done))));refine Bf ?_;refine s6 ?_;(focus ((with_reducible apply aa.bH);(iterate 7 exact rfl);omega;rotate_left;(first|omega|exact Nat.zero_lt_one|(simp;done))));refine zy ?_;refine zr ?_;refine lQ ?_;refine I1 ?_;refine K5 ?_;refine aa.kp rfl rfl rfl rfl rfl rfl rfl (by omega) (by omega) ?_;refine zy ?_;refine zA (FL) ?_;refine A1 ?_;refine uQ ?_;(with_reducible apply AW.ft 14 9 12 3);(iterate 3 exact rfl);refine j2 ?_)
         (apply az;(exact bD.two (.tmp rfl rfl) (.tmp rfl rfl));(refine tt ?_;refine fu.cons ?_ ?_;refine Le.aw ?_;(first|rfl|simp);exact fu.nil))
        |true=>
         rw[d5] at FL
         have yy:cm ⟨v,cl,syms⟩ s l[i]=some ⟨s.vars+1,s.cl++defs l[i].lits[0] (l[i].lits.drop 1),s.ref⟩:=by rw[dp,eQ,if_pos ⟨d1,d2,by rw[h0];exact d3,by rw[h0];exact d4,d5⟩,h0]
         have iY:=kD aP yy
         rw[iY] at aR
         have zQ:=th.kY hL yy
         obtain⟨sv,scl,rf⟩:=s
         simp only at*
         cases rf with
         |true=>
          have LA:(l[i].lits.drop (1:Int).toNat).length=l[i].lits.length - 1:=xT
          have d5':ay sv (l[i].lits.drop (1:Int).toNat)=true:=d5
          (refine fF ?_;(focus ((with_reducible apply aa.ak);(iterate 7 exact rfl);rotate_left;omega));refine Q3 ?_;(with_reducible apply aa.inline (hf:=Try.func49));(with_reducible assumption);(iterate 10 exact rfl);intro g_ aY aW;refine sr ?_;(with_reducible apply AW.bn);exact rfl;exact rfl;kernel_rfl;(with_reducible assumption);refine yM ?_;refine s6 ?_;(focus ((with_reducible apply aa.bH);(iterate 7 exact rfl);omega;rotate_left;(first|omega|exact Nat.zero_lt_one|(simp;done))));refine Bf ?_;refine s6 ?_;(focus ((with_reducible apply aa.bH);(iterate 7 exact rfl);omega;rotate_left;(first|omega|exact Nat.zero_lt_one|(simp;done))));refine zy ?_;refine zr ?_;refine lQ ?_;refine KP ?_;(focus ((with_reducible apply aa.bH);(iterate 7 exact rfl);omega;rotate_left;(first|omega|exact Nat.zero_lt_one|(simp;done))));refine zr ?_;refine oQ ?_;refine vn ?_;refine iZ ?_;refine ml ?_;refine aa.kp rfl rfl rfl rfl rfl rfl rfl (by omega) (by omega) ?_;refine iv ?_)
          (refine nz ?_;apply AW.ck [66,65,64,63,61,60,59,58,57,56,55,54,15,14,13,12,9,8,4,3,0,1073,1072,1071,1070,1069,1068,1015,1014,1012,1013,1056,1055,1054,1008,1009,1002] [6,5,4,2] (fun j:Nat=>([(67,aw j),(5,.own 7 3 1 ((l[i].lits[0]::((l[i].lits.drop (1:Int).toNat).take j).map fun x=> -x).map encI))]:List (Nat×AV))) (fun j:Nat=>([(3,some (.box [aw (sv+1),.own 2 28 1 ((scl++((l[i].lits.drop (1:Int).toNat).take j).map fun x=>[-l[i].lits[0],x]).map fun c=>[ints c]),aw v,.pv (dy syms),.own 4 4 1 ((j3.valid ⟨v,cl,syms⟩).map jj),aM true])),(7,some .row)]:List (Nat×Option Ob))) (fun j:Nat=>j≤(l[i].lits.drop (1:Int).toNat).length) (fun j:Nat=>(l[i].lits.drop (1:Int).toNat).length - j) (0);(conv=>lhs;simp only[Nf.jJ,Nf.all,Nat.reduceBEq,reduceAdd,reduceSub]);(all_goals skip))
          ·exact Nat.zero_le _
          ·exact Q6
          rintro j hj
          have Dh:((l[i].lits.drop (1:Int).toNat).take j).length≤900:=by rw[List.length_take];omega
          by_cases kR:j<(l[i].lits.drop (1:Int).toNat).length
          ·have Dt:=aT d5' _ (List.getElem_mem kR)
           have pA:=bd kR
           have hq1:(l[i].lits[0]::((l[i].lits.drop (1:Int).toNat).take (j+1)).map fun x=> -x).map encI=(l[i].lits[0]::((l[i].lits.drop (1:Int).toNat).take j).map fun x=> -x).map encI++ [encI (-(l[i].lits.drop (1:Int).toNat)[j])]:=by rw[pA];simp
           have hq2:((scl++((l[i].lits.drop (1:Int).toNat).take (j+1)).map fun x=>[-l[i].lits[0],x]).map fun c=>[ints c])=((scl++((l[i].lits.drop (1:Int).toNat).take j).map fun x=>[-l[i].lits[0],x]).map fun c=>[ints c])++ [[ints [-l[i].lits[0],(l[i].lits.drop (1:Int).toNat)[j]]]]:=by rw[pA];simp
           (refine Dc ?_;(focus ((with_reducible apply aa.ak);(iterate 7 exact rfl);rotate_left;omega));refine zr ?_;refine iw ?_;refine aa.a7 rfl rfl rfl ?_;refine ml ?_;(focus ((with_reducible apply aa.bH);(iterate 7 exact rfl);omega;rotate_left;(first|omega|exact Nat.zero_lt_one|(simp;done))));refine zr ?_;refine aa.neg rfl rfl rfl (by omega) ?_;refine zm ?_;refine we ?_;refine nz ?_;(with_reducible apply aa.inline (hf:=Try.func65));(with_reducible assumption);(iterate 10 exact rfl);intro g_ aY aW;refine Dx ?_;(with_reducible apply aa.aZ);exact rfl;(first|exact .pv rfl|exact .own rfl|exact .nil rfl);(iterate 9 exact rfl);(first|omega|(simp only[List.length_map,List.length_append,List.length_cons,List.length_nil,List.length_drop,List.length_take,List.length_set,List.length_range,aE];omega));refine FM ?_;refine cJ ?_;refine w_ ?_;refine KL ?_;(with_reducible apply aa.aZ);exact rfl;(first|exact .pv rfl|exact .own rfl|exact .nil rfl);(iterate 9 exact rfl);(first|omega|(simp only[List.length_map,List.length_append,List.length_cons,List.length_nil,List.length_drop,List.length_take,List.length_set,List.length_range,aE];omega));refine nz ?_;refine qL ?_;refine mR ?_)
           exact Q8
          ·rw[cz (l:=l[i].lits.drop (1:Int).toNat) (by omega)]
           have eC:(l[i].lits[0]::(l[i].lits.drop (1:Int).toNat).map fun x=> -x).length=(l[i].lits.drop (1:Int).toNat).length+1:=by simp
           (refine ng ?_;refine aa.a7 rfl rfl rfl ?_;refine aa.bt rfl rfl rfl ?_;(with_reducible apply aa.inline (hf:=Try.func65));(with_reducible assumption);(iterate 10 exact rfl);intro g_ aY aW;refine Dx ?_;(with_reducible apply aa.aZ);exact rfl;(first|exact .pv rfl|exact .own rfl|exact .nil rfl);(iterate 9 exact rfl);(first|omega|(simp only[List.length_map,List.length_append,List.length_cons,List.length_nil,List.length_drop,List.length_take,List.length_set,List.length_range,aE];omega));refine FM ?_;refine cJ ?_;refine w_ ?_;refine Ij ?_)
           exact O4
         |false=>
          have LA:(l[i].lits.drop (1:Int).toNat).length=l[i].lits.length - 1:=xT
          have d5':ay sv (l[i].lits.drop (1:Int).toNat)=true:=d5
          (refine fF ?_;(focus ((with_reducible apply aa.ak);(iterate 7 exact rfl);rotate_left;omega));refine Q3 ?_;(with_reducible apply aa.inline (hf:=Try.func49));(with_reducible assumption);(iterate 10 exact rfl);intro g_ aY aW;refine sr ?_;(with_reducible apply AW.bn);exact rfl;exact rfl;kernel_rfl;(with_reducible assumption);refine yM ?_;refine s6 ?_;(focus ((with_reducible apply aa.bH);(iterate 7 exact rfl);omega;rotate_left;(first|omega|exact Nat.zero_lt_one|(simp;done))));refine Bf ?_;refine s6 ?_;(focus ((with_reducible apply aa.bH);(iterate 7 exact rfl);omega;rotate_left;(first|omega|exact Nat.zero_lt_one|(simp;done))));refine zy ?_;refine zr ?_;refine lQ ?_;refine KP ?_;(focus ((with_reducible apply aa.bH);(iterate 7 exact rfl);omega;rotate_left;(first|omega|exact Nat.zero_lt_one|(simp;done))));refine zr ?_;refine oQ ?_;refine vn ?_;refine iZ ?_;refine ml ?_;refine aa.kp rfl rfl rfl rfl rfl rfl rfl (by omega) (by omega) ?_;refine iv ?_)
          (refine nz ?_;apply AW.ck [66,65,64,63,61,60,59,58,57,56,55,54,15,14,13,12,9,8,4,3,0,1073,1072,1071,1070,1069,1068,1015,1014,1012,1013,1056,1055,1054,1008,1009,1002] [6,5,4,2] (fun j:Nat=>([(67,aw j),(5,.own 7 3 1 ((l[i].lits[0]::((l[i].lits.drop (1:Int).toNat).take j).map fun x=> -x).map encI))]:List (Nat×AV))) (fun j:Nat=>([(3,some (.box [aw (sv+1),.own 2 28 1 ((scl++((l[i].lits.drop (1:Int).toNat).take j).map fun x=>[-l[i].lits[0],x]).map fun c=>[ints c]),aw v,.pv (dy syms),.own 4 4 1 ((j3.valid ⟨v,cl,syms⟩).map jj),aM false])),(7,some .row)]:List (Nat×Option Ob))) (fun j:Nat=>j≤(l[i].lits.drop (1:Int).toNat).length) (fun j:Nat=>(l[i].lits.drop (1:Int).toNat).length - j) (0);(conv=>lhs;simp only[Nf.jJ,Nf.all,Nat.reduceBEq,reduceAdd,reduceSub]);(all_goals skip))
          ·exact Nat.zero_le _
          ·exact Q6
          rintro j hj
          have Dh:((l[i].lits.drop (1:Int).toNat).take j).length≤900:=by rw[List.length_take];omega
          by_cases kR:j<(l[i].lits.drop (1:Int).toNat).length
          ·have Dt:=aT d5' _ (List.getElem_mem kR)
           have pA:=bd kR
           have hq1:(l[i].lits[0]::((l[i].lits.drop (1:Int).toNat).take (j+1)).map fun x=> -x).map encI=(l[i].lits[0]::((l[i].lits.drop (1:Int).toNat).take j).map fun x=> -x).map encI++ [encI (-(l[i].lits.drop (1:Int).toNat)[j])]:=by rw[pA];simp
           have hq2:((scl++((l[i].lits.drop (1:Int).toNat).take (j+1)).map fun x=>[-l[i].lits[0],x]).map fun c=>[ints c])=((scl++((l[i].lits.drop (1:Int).toNat).take j).map fun x=>[-l[i].lits[0],x]).map fun c=>[ints c])++ [[ints [-l[i].lits[0],(l[i].lits.drop (1:Int).toNat)[j]]]]:=by rw[pA];simp
           (refine Dc ?_;(focus ((with_reducible apply aa.ak);(iterate 7 exact rfl);rotate_left;omega));refine zr ?_;refine iw ?_;refine aa.a7 rfl rfl rfl ?_;refine ml ?_;(focus ((with_reducible apply aa.bH);(iterate 7 exact rfl);omega;rotate_left;(first|omega|exact Nat.zero_lt_one|(simp;done))));refine zr ?_;refine aa.neg rfl rfl rfl (by omega) ?_;refine zm ?_;refine we ?_;refine nz ?_;(with_reducible apply aa.inline (hf:=Try.func65));(with_reducible assumption);(iterate 10 exact rfl);intro g_ aY aW;refine Dx ?_;(with_reducible apply aa.aZ);exact rfl;(first|exact .pv rfl|exact .own rfl|exact .nil rfl);(iterate 9 exact rfl);(first|omega|(simp only[List.length_map,List.length_append,List.length_cons,List.length_nil,List.length_drop,List.length_take,List.length_set,List.length_range,aE];omega));refine FM ?_;refine cJ ?_;refine iO ?_;refine aa.len rfl rfl rfl rfl ?_;refine zl ?_;refine aa.eql rfl rfl rfl rfl rfl ?_;refine aa.dr rfl rfl rfl rfl rfl rfl ?_;refine KL ?_;(with_reducible apply aa.aZ);exact rfl;(first|exact .pv rfl|exact .own rfl|exact .nil rfl);(iterate 9 exact rfl);(first|omega|(simp only[List.length_map,List.length_append,List.length_cons,List.length_nil,List.length_drop,List.length_take,List.length_set,List.length_range,aE];omega));refine nz ?_;refine qL ?_;refine mR ?_)
           exact Q8
          ·rw[cz (l:=l[i].lits.drop (1:Int).toNat) (by omega)]
           have eC:(l[i].lits[0]::(l[i].lits.drop (1:Int).toNat).map fun x=> -x).length=(l[i].lits.drop (1:Int).toNat).length+1:=by simp
           (refine ng ?_;refine aa.a7 rfl rfl rfl ?_;refine aa.bt rfl rfl rfl ?_;(with_reducible apply aa.inline (hf:=Try.func65));(with_reducible assumption);(iterate 10 exact rfl);intro g_ aY aW;refine Dx ?_;(with_reducible apply aa.aZ);exact rfl;(first|exact .pv rfl|exact .own rfl|exact .nil rfl);(iterate 9 exact rfl);(first|omega|(simp only[List.length_map,List.length_append,List.length_cons,List.length_nil,List.length_drop,List.length_take,List.length_set,List.length_range,aE];omega));refine FM ?_;refine cJ ?_;refine Fi ?_;refine Ij ?_)
           exact O4
       ·have d4':¬l[i].lits[(0:Int).toNat]'(by simp;omega)≤20000:=d4
        have iY:=bY aP (by rw[dp,eQ,if_neg (by rintro⟨_,_,_,h,_⟩;rw[h0] at h;exact d4 h)])
        rw[iY] at aR
        rw[aR]
        (refine fF ?_;(focus ((with_reducible apply aa.ak);(iterate 7 exact rfl);rotate_left;omega));refine Q3 ?_;(with_reducible apply aa.inline (hf:=Try.func49));(with_reducible assumption);(iterate 10 exact rfl);intro g_ aY aW;refine Ll ?_;show aa .held _ _ _ [_,_,_,_,_,_,_,_,_,_,_,_,_,_,_,_,_,_,_,_,_,_,_,_,_,_,_,_,_,_,_,_,_,_,_,_,_,_] _ _;refine yM ?_;refine s6 ?_;(focus ((with_reducible apply aa.bH);(iterate 7 exact rfl);omega;rotate_left;(first|omega|exact Nat.zero_lt_one|(simp;done))));refine Bf ?_;refine s6 ?_;(focus ((with_reducible apply aa.bH);(iterate 7 exact rfl);omega;rotate_left;(first|omega|exact Nat.zero_lt_one|(simp;done))));refine zy ?_;refine zr ?_;refine lQ ?_;(iterate 8 refine aa.dK rfl rfl rfl rfl rfl rfl (by first|omega|decide) ?_);refine Q4 ?_;intro k_ cI;refine Dj ?_;intro g_ ag bq;refine Dp ?_;refine Q4 ?_;refine Fj ?_;intro g_ ag;show aa .held _ _ _ [_,_] _ _;refine Dp ?_;refine zT ?_;refine Q4 ?_;intro k_ cI;refine nz ?_;refine GX ?_;(with_reducible apply AW.ft 14 9 12 3);(iterate 3 exact rfl);refine j2 ?_)
        (apply az;(exact bD.two (.tmp rfl rfl) (.tmp rfl rfl));(refine tt ?_;refine fu.cons ?_ ?_;refine Le.aw ?_;(first|rfl|simp);exact fu.nil))
      ·have d3':¬l[i].lits[(0:Int).toNat]'(by simp;omega)=s.vars+1:=d3
       have iY:=bY aP (by rw[dp,eQ,if_neg (by rintro⟨_,_,h,_⟩;rw[h0] at h;exact d3 h)])
       rw[iY] at aR
       rw[aR]
       (refine fF ?_;(focus ((with_reducible apply aa.ak);(iterate 7 exact rfl);rotate_left;omega));refine Q3 ?_;(with_reducible apply aa.inline (hf:=Try.func49));(with_reducible assumption);(iterate 10 exact rfl);intro g_ aY aW;refine Ll ?_;show aa .held _ _ _ [_,_,_,_,_,_,_,_,_,_,_,_,_,_,_,_,_,_,_,_,_,_,_,_,_,_,_,_,_,_,_,_,_,_,_,_,_,_] _ _;refine yM ?_;refine s6 ?_;(focus ((with_reducible apply aa.bH);(iterate 7 exact rfl);omega;rotate_left;(first|omega|exact Nat.zero_lt_one|(simp;done))));refine Bf ?_;refine zm ?_;(iterate 5 refine aa.dK rfl rfl rfl rfl rfl rfl (by with_reducible assumption) ?_);refine zT ?_;refine ET ?_;refine Q4 ?_;intro k_ cI;refine Dj ?_;intro g_ ag bq;refine ss ?_;refine Fj ?_;intro g_ ag;show aa .held _ _ _ [_,_] _ _;refine w7 ?_;refine Q4 ?_;intro k_ cI;refine nz ?_;refine GX ?_;(with_reducible apply AW.ft 14 9 12 3);(iterate 3 exact rfl);refine j2 ?_)
       (apply az;(exact bD.two (.tmp rfl rfl) (.tmp rfl rfl));(refine tt ?_;refine fu.cons ?_ ?_;refine Le.aw ?_;(first|rfl|simp);exact fu.nil))
     ·have d2':(l[i].lits.length:Int)<2:=by omega
      have iY:=bY aP (by rw[dp,eQ,if_neg (by rintro⟨_,h,_⟩;exact d2 h)])
      rw[iY] at aR
      rw[aR]
      (refine fF ?_;(focus ((with_reducible apply aa.ak);(iterate 7 exact rfl);rotate_left;omega));refine Q3 ?_;(with_reducible apply aa.inline (hf:=Try.func49));(with_reducible assumption);(iterate 10 exact rfl);intro g_ aY aW;refine Ll ?_;show aa .held _ _ _ [_,_,_,_,_,_,_,_,_,_,_,_,_,_,_,_,_,_,_,_,_,_,_,_,_,_,_,_,_,_,_,_,_,_,_,_,_,_] _ _;refine yM ?_;refine zm ?_;(iterate 11 refine aa.dK rfl rfl rfl rfl rfl rfl (by with_reducible assumption) ?_);refine zT ?_;refine zm ?_;refine tP ?_;refine ET ?_;refine Q4 ?_;intro k_ cI;refine Dj ?_;intro g_ ag bq;refine ss ?_;refine Fj ?_;intro g_ ag;show aa .held _ _ _ [_,_] _ _;refine w7 ?_;refine Q4 ?_;intro k_ cI;refine nz ?_;refine GX ?_;(with_reducible apply AW.ft 14 9 12 3);(iterate 3 exact rfl);refine j2 ?_)
      (apply az;(exact bD.two (.tmp rfl rfl) (.tmp rfl rfl));(refine tt ?_;refine fu.cons ?_ ?_;refine Le.aw ?_;(first|rfl|simp);exact fu.nil))
    ·have iY:=bY aP (by rw[dp,eQ,if_neg (fun h=>d1 h.1)])
     rw[iY] at aR
     rw[aR]
     (refine fF ?_;(focus ((with_reducible apply aa.ak);(iterate 7 exact rfl);rotate_left;omega));refine Q3 ?_;(with_reducible apply aa.inline (hf:=Try.func49));(with_reducible assumption);(iterate 10 exact rfl);intro g_ aY aW;refine Ll ?_;show aa .held _ _ _ [_,_,_,_,_,_,_,_,_,_,_,_,_,_,_,_,_,_,_,_,_,_,_,_,_,_,_,_,_,_,_,_,_,_,_,_,_,_] _ _;refine Ib ?_;refine Dm ?_;refine zm ?_;(iterate 11 refine aa.bV rfl rfl rfl rfl rfl rfl rfl ?_);refine wg ?_;refine tP ?_;refine ET ?_;refine Q4 ?_;intro k_ cI;refine Dj ?_;intro g_ ag bq;refine ss ?_;refine Fj ?_;intro g_ ag;show aa .held _ _ _ [_,_] _ _;refine w7 ?_;refine Q4 ?_;intro k_ cI;refine nz ?_;refine GX ?_;(with_reducible apply AW.ft 14 9 12 3);(iterate 3 exact rfl);refine j2 ?_)
     (apply az;(exact bD.two (.tmp rfl rfl) (.tmp rfl rfl));(refine tt ?_;refine fu.cons ?_ ?_;refine Le.aw ?_;(first|rfl|simp);exact fu.nil))
   by_cases k4:l[i].kind=4
   ·have vq:dQ (so kV) l[i].kind=some (tv (.func 50)):=by rw[mj,if_neg k1,if_neg k2,if_neg k3,if_pos k4]
    have dp:cm ⟨v,cl,syms⟩ s l[i]=jc ⟨v,cl,syms⟩ s l[i]:=s7 k4
    cases c2:ay s.vars l[i].lits with
    |false=>
     rw[c2] at hw
     have iY:=bY aP (by rw[dp,jc,if_neg (by rw[c2];simp)])
     rw[iY] at aR
     rw[aR]
     (refine fF ?_;(focus ((with_reducible apply aa.ak);(iterate 7 exact rfl);rotate_left;omega));refine Q3 ?_;(with_reducible apply aa.inline (hf:=Try.func50));(with_reducible assumption);(iterate 10 exact rfl);intro g_ aY aW;refine AM ?_;(with_reducible apply AW.bn);exact rfl;exact rfl;kernel_rfl;(with_reducible assumption);refine zb ?_;refine BM ?_;refine ry ?_;refine ml ?_;refine zA (hw) ?_;refine uI ?_;refine w_ ?_;refine ET ?_;refine wg ?_;refine G6 ?_;refine uQ ?_;(with_reducible apply AW.ft 14 9 12 3);(iterate 3 exact rfl);refine j2 ?_)
     (apply az;(exact bD.two (.tmp rfl rfl) (.tmp rfl rfl));(refine tt ?_;refine fu.cons ?_ ?_;refine Le.aw ?_;(first|rfl|simp);exact fu.nil))
    |true=>
     rw[c2] at hw
     by_cases m1:0≤l[i].sym
     ·by_cases m2:l[i].sym<syms.length
      ·have mt:l[i].sym.toNat<syms.length:=by omega
       have FC:syms.getD l[i].sym.toNat []=syms[l[i].sym.toNat]:=by rw[List.getD_eq_getElem?_getD,List.getElem?_eq_getElem mt];rfl
       have Lc:(j3.valid ⟨v,cl,syms⟩)[l[i].sym.toNat]'(by rw[D_];exact mt)=cN v cl syms[l[i].sym.toNat]:=Ct ⟨v,cl,syms⟩ mt
       cases m3:cN v cl syms[l[i].sym.toNat] with
       |false=>
        rw[m3] at Lc
        have iY:=bY aP (e:=⟨v,cl,syms⟩) (s:=s) (by rw[dp,jc,if_neg (by rw[FC,m3];simp)])
        rw[iY] at aR
        rw[aR]
        have Ff:(!(j3.valid ⟨v,cl,syms⟩)[l[i].sym.toNat]'(by rw[D_];exact mt))=true:=by rw[Lc];rfl
        (refine fF ?_;(focus ((with_reducible apply aa.ak);(iterate 7 exact rfl);rotate_left;omega));refine Q3 ?_;(with_reducible apply aa.inline (hf:=Try.func50));(with_reducible assumption);(iterate 10 exact rfl);intro g_ aY aW;refine AM ?_;(with_reducible apply AW.bn);exact rfl;exact rfl;kernel_rfl;(with_reducible assumption);refine Iy ?_;(focus ((with_reducible apply aa.aC);(iterate 4 exact rfl);exact(fun h_=>by cases h_);rotate_left;(first|omega|exact Nat.zero_lt_one|(simp;done))));refine A1 ?_;refine zd ?_;refine AW.wB rfl rfl (by assumption) ?_;refine fV ?_;refine mH ?_;refine oO ?_;refine FU ?_;refine rj ?_;(with_reducible apply AW.ft 14 9 12 3);(iterate 3 exact rfl);refine j2 ?_)
        (apply az;(exact bD.two (.tmp rfl rfl) (.tmp rfl rfl));(refine tt ?_;refine fu.cons ?_ ?_;refine Le.aw ?_;(first|rfl|simp);exact fu.nil))
       |true=>
        rw[m3] at Lc
        have Ff:(!(j3.valid ⟨v,cl,syms⟩)[l[i].sym.toNat]'(by rw[D_];exact mt))=false:=by rw[Lc];rfl
        have vp:=gK l[i].lits (by omega)
        (refine fF ?_;(focus ((with_reducible apply aa.ak);(iterate 7 exact rfl);rotate_left;omega));refine Q3 ?_;(with_reducible apply aa.inline (hf:=Try.func50));(with_reducible assumption);(iterate 10 exact rfl);intro g_ aY aW;refine AM ?_;(with_reducible apply AW.bn);exact rfl;exact rfl;kernel_rfl;(with_reducible assumption);refine Iy ?_;(focus ((with_reducible apply aa.aC);(iterate 4 exact rfl);exact(fun h_=>by cases h_);rotate_left;(first|omega|exact Nat.zero_lt_one|(simp;done))));refine A1 ?_;refine zd ?_;refine AW.r7 rfl rfl (by assumption) ?_;refine oc ?_;refine zo ?_;refine AW.bE [0,1,2,3,4,5,6,7,8,9] [13] rfl (by assumption) (by kernel_rfl) (by kernel_rfl) rfl ?_;show aa .held _ _ _ [_,_,_,_,_,_,_,_,_,_] _ _;refine zb ?_;refine aa.aJ rfl rfl rfl ?_;refine aa.ah 56 2 3 rfl rfl rfl rfl ?_;refine zb ?_;refine aa.ah 30 2 2 rfl rfl rfl rfl ?_;refine zb ?_;(focus ((with_reducible apply aa.bH);(iterate 7 exact rfl);omega;rotate_left;(first|omega|exact Nat.zero_lt_one|(simp;done))));refine zr ?_;refine ml ?_;refine Q4 ?_;intro k_ cI;refine nz ?_;apply AR.cut [9,8,7,6,5,4,3,2,1,0,10,11,12];intro iq;apply AR.cut [9,8,7,6,5,4,3,2,1,0,10,12];intro lM;apply AR.cut [9,8,7,6,5,4,3,2,1,0,11,12];intro lU;apply AR.cut [9,8,7,6,5,4,3,2,1,0,10,11];intro na;(refine AR.mY (i:=10) (j:=11) (m:=12) rfl (by kernel_rfl) rfl rfl rfl ?_ ?_ ?_<;>intro g_ ag bq);refine zP (vp) ?_;refine Q4 ?_;(refine AR.bR (i:=11) (j:=12) rfl (by kernel_rfl) rfl rfl ?_ ?_<;>intro g_ ag bq);refine uP ?_;refine oS ?_;exact AR.perm (by kernel_rfl) na;refine uP ?_;exact wi;refine sZ ?_;refine Q4 ?_;(refine AR.bR (i:=10) (j:=12) rfl (by kernel_rfl) rfl rfl ?_ ?_<;>intro g_ ag bq);refine zP (vp) ?_;refine Q4 ?_;(try refine nz ?_);refine AR.meet na (by kernel_rfl) (fun g_=>aN rfl ?_ ?_ rfl);(iterate 79 refine⟨.eq rfl rfl,?_⟩);exact trivial;exact Lm;refine uP ?_;refine oS ?_;exact AR.perm (by kernel_rfl) lU;refine sZ ?_;refine Q4 ?_;(refine AR.bR (i:=10) (j:=11) rfl (by kernel_rfl) rfl rfl ?_ ?_<;>intro g_ ag bq);refine zP (vp) ?_;refine Q4 ?_;(try refine nz ?_);refine AR.meet lM (by kernel_rfl) (fun g_=>aN rfl ?_ ?_ rfl);(iterate 79 refine⟨.eq rfl rfl,?_⟩);exact trivial;exact Lm;refine uP ?_;refine AR.sw 8 9 (by assumption) (by kernel_rfl) (by kernel_rfl) ?_;refine vM ?_;refine AR.meet lU (by kernel_rfl) (fun g_=>aN rfl ?_ ?_ rfl);(iterate 79 refine⟨.eq rfl rfl,?_⟩);exact trivial;refine⟨.box _ rfl ?_,?_⟩;exact rP;exact Lm;refine AR.aS (i:=12) rfl (by kernel_rfl) rfl ?_;intro g_ ag bq;refine uP ?_;exact ph;refine AR.aS (i:=10) rfl (by kernel_rfl) rfl ?_;intro g_ ag bq;refine zP (vp) ?_;refine Q4 ?_;(try refine nz ?_);exact I8;refine AR.aS (i:=11) rfl (by kernel_rfl) rfl ?_;intro g_ ag bq;refine uP ?_;refine AR.sw 8 9 (by assumption) (by kernel_rfl) (by kernel_rfl) ?_;refine vM ?_;exact I8;refine qX ?_;intro g_ ag aH;refine nj ?_;refine oD ?_;intro g_ ag aH;refine xO ?_;refine pL ?_;refine zo ?_;refine zq ?_;refine zb ?_;refine BM ?_;refine uV ?_;refine aa.w9 rfl rfl rfl rfl rfl rfl rfl ?_;(with_reducible apply aa.inline (hf:=Try.func28));(with_reducible assumption);(iterate 10 exact rfl);intro g_ aY aW;refine np ?_;refine aa.bt rfl rfl rfl ?_;refine aa.eI rfl rfl rfl ?_;(with_reducible apply aa.inline (hf:=Try.func58));(with_reducible assumption);(iterate 10 exact rfl);intro g_ aY aW;refine nz ?_;refine nM ?_;refine Bn ?_;refine zm ?_;refine pT ?_)
        obtain⟨y1,y2⟩:=ib m3
        have MZ:=nh hf.hv y2
        have Pb:=zW.2 _ (List.getElem_mem mt)
        (refine nz ?_;apply AW.ck [7,0,1,1006,1005,1004,1000,1001,2058,2057,2056,2055,2054,2053,2006,2005,2015,2014,2013,2012,2009,2008,2004,2003,2002,3073,3072,3071,3070,3069,3068,3015,3014,3012,3013,3056,3055,3054,3008,3009,3002] [9,8,7,6,5,3,4,2] (fun j:Nat=>([(8,aw j)]:List (Nat×AV))) (fun j:Nat=>([]:List (Nat×Option Ob))) (fun j:Nat=>j≤s.cl.length∧(s.cl.take j).any (fq v syms[l[i].sym.toNat] l[i].lits)=false) (fun j:Nat=>s.cl.length - j) (0);(conv=>lhs;simp only[Nf.jJ,Nf.all,Nat.reduceBEq,reduceAdd,reduceSub]);(all_goals skip))
        ·exact⟨Nat.zero_le _,rfl⟩
        ·exact Q7
        rintro j ⟨hj,sK⟩
        by_cases kR:j<s.cl.length
        ·obtain⟨q1,q2⟩:=th.dO _ (List.getElem_mem kR)
         have Ni:=jt v s.cl[j] (by omega)
         have vh:=ma (p:=fq v syms[l[i].sym.toNat] l[i].lits) kR
         rw[sK,Bool.false_or] at vh
         cases e1:ay v s.cl[j] with
         |false=>
          rw[e1] at Ni
          have C_:fq v syms[l[i].sym.toNat] l[i].lits s.cl[j]=false:=by unfold fq;rw[e1];rfl
          rw[C_] at vh
          (refine yV ?_;(focus ((with_reducible apply aa.aC);(iterate 4 exact rfl);exact(fun h_=>by cases h_);rotate_left;(first|omega|exact Nat.zero_lt_one|(simp;done))));(with_reducible apply aa.inline (hf:=Try.func68));(with_reducible assumption);(iterate 10 exact rfl);intro g_ aY aW;refine nz ?_;refine D3 ?_;show aa .held _ _ _ [_,_,_,_,_] _ _;refine Ez ?_;intro k_ cI;refine Dw ?_;intro g_ ag bq;refine DF ?_;intro g_ ag;show aa .held _ _ _ [_,_,_,_] _ _;refine zm ?_;(iterate 3 refine aa.bV rfl rfl rfl rfl rfl rfl rfl ?_);refine Q4 ?_;intro k_ cI;refine E0 ?_;intro g_ ag bq;refine ss ?_;refine AR.aS (i:=10) rfl (by kernel_rfl) rfl ?_;intro g_ ag bq;refine ss ?_;refine AR.aS (i:=12) rfl (by kernel_rfl) rfl ?_;intro g_ ag bq;refine ss ?_;refine EJ ?_;intro g_ ag;show aa .held _ _ _ [_,_] _ _;refine aa.dr rfl rfl rfl rfl rfl rfl ?_;refine za ?_;refine Q4 ?_;intro k_ cI;refine nz ?_;refine zw ?_;refine oz ?_;refine vg ?_)
          exact LJ
         |true=>
          rw[e1] at Ni
          have Ap:=uo syms[l[i].sym.toNat] s.cl[j] MZ (by omega) (by omega) (by rw[y1];exact e1)
          have oK:=iM syms[l[i].sym.toNat] s.cl[j]
          have Po:=gK (cL syms[l[i].sym.toNat] s.cl[j]) (by omega)
          have heq:=nF (canon (cL syms[l[i].sym.toNat] s.cl[j])) (canon l[i].lits)
          by_cases he:canon (cL syms[l[i].sym.toNat] s.cl[j])=canon l[i].lits
          ·rw[decide_eq_true he] at heq
           have C_:fq v syms[l[i].sym.toNat] l[i].lits s.cl[j]=true:=by unfold fq;rw[e1,decide_eq_true he];rfl
           have yy:cm ⟨v,cl,syms⟩ s l[i]=some (qN s l[i].lits):=by rw[dp,jc,if_pos ⟨c2,⟨m1,m2⟩,by rw[FC];exact m3,by rw[FC];exact oN kR C_⟩]
           have iY:=kD aP yy
           rw[iY] at aR
           have zQ:=th.kY hL yy
           obtain⟨sv,scl,rf⟩:=s
           simp only[qN] at*
           have Qh:j<scl.length:=kR
           cases rf with
           |true=>
            (refine yV ?_;(focus ((with_reducible apply aa.aC);(iterate 4 exact rfl);exact(fun h_=>by cases h_);rotate_left;(first|omega|exact Nat.zero_lt_one|(simp;done))));(with_reducible apply aa.inline (hf:=Try.func68));(with_reducible assumption);(iterate 10 exact rfl);intro g_ aY aW;refine nz ?_;refine D3 ?_;show aa .held _ _ _ [_,_,_,_,_] _ _;refine Ez ?_;intro k_ cI;refine Dw ?_;intro g_ ag bq;refine DF ?_;intro g_ ag;show aa .held _ _ _ [_,_,_,_] _ _;refine zm ?_;refine zl ?_;refine zb ?_;refine iO ?_;refine zb ?_;refine Q4 ?_;intro k_ cI;refine E0 ?_;intro g_ ag bq;refine HG ?_;intro g_ ag bq;refine H6 ?_;intro g_ ag bq;refine zl ?_;refine zA (heq) ?_;refine Q4 ?_;refine EJ ?_;intro g_ ag;show aa .held _ _ _ [_,_] _ _;refine aa.cY rfl rfl rfl rfl rfl rfl ?_;refine za ?_;refine Q4 ?_;intro k_ cI;refine nz ?_;refine zw ?_;refine AU ?_;refine mT ?_;refine zb ?_;refine ml ?_;(with_reducible apply aa.inline (hf:=Try.func65));(with_reducible assumption);(iterate 10 exact rfl);intro g_ aY aW;refine CT ?_;refine zm ?_;refine oQ ?_;(with_reducible apply aa.aZ);exact rfl;(first|exact .pv rfl|exact .own rfl|exact .nil rfl);(iterate 9 exact rfl);(first|omega|(simp only[List.length_map,List.length_append,List.length_cons,List.length_nil,List.length_drop,List.length_take,List.length_set,List.length_range,aE];omega));refine FM ?_;refine cJ ?_;refine w_ ?_;refine Ij ?_)
            exact Lp
           |false=>
            (refine yV ?_;(focus ((with_reducible apply aa.aC);(iterate 4 exact rfl);exact(fun h_=>by cases h_);rotate_left;(first|omega|exact Nat.zero_lt_one|(simp;done))));(with_reducible apply aa.inline (hf:=Try.func68));(with_reducible assumption);(iterate 10 exact rfl);intro g_ aY aW;refine nz ?_;refine D3 ?_;show aa .held _ _ _ [_,_,_,_,_] _ _;refine Ez ?_;intro k_ cI;refine Dw ?_;intro g_ ag bq;refine DF ?_;intro g_ ag;show aa .held _ _ _ [_,_,_,_] _ _;refine zm ?_;refine zl ?_;refine zb ?_;refine iO ?_;refine zb ?_;refine Q4 ?_;intro k_ cI;refine E0 ?_;intro g_ ag bq;refine HG ?_;intro g_ ag bq;refine H6 ?_;intro g_ ag bq;refine zl ?_;refine zA (heq) ?_;refine Q4 ?_;refine EJ ?_;intro g_ ag;show aa .held _ _ _ [_,_] _ _;refine aa.cY rfl rfl rfl rfl rfl rfl ?_;refine za ?_;refine Q4 ?_;intro k_ cI;refine nz ?_;refine zw ?_;refine AU ?_;refine mT ?_;refine zb ?_;refine ml ?_;(with_reducible apply aa.inline (hf:=Try.func65));(with_reducible assumption);(iterate 10 exact rfl);intro g_ aY aW;refine CT ?_;refine zm ?_;refine oQ ?_;(with_reducible apply aa.aZ);exact rfl;(first|exact .pv rfl|exact .own rfl|exact .nil rfl);(iterate 9 exact rfl);(first|omega|(simp only[List.length_map,List.length_append,List.length_cons,List.length_nil,List.length_drop,List.length_take,List.length_set,List.length_range,aE];omega));refine FM ?_;refine cJ ?_;refine Fi ?_;refine Ij ?_)
            exact Lp
          ·rw[decide_eq_false he] at heq
           have C_:fq v syms[l[i].sym.toNat] l[i].lits s.cl[j]=false:=by unfold fq;rw[e1,decide_eq_false he];rfl
           rw[C_] at vh
           (refine yV ?_;(focus ((with_reducible apply aa.aC);(iterate 4 exact rfl);exact(fun h_=>by cases h_);rotate_left;(first|omega|exact Nat.zero_lt_one|(simp;done))));(with_reducible apply aa.inline (hf:=Try.func68));(with_reducible assumption);(iterate 10 exact rfl);intro g_ aY aW;refine nz ?_;refine D3 ?_;show aa .held _ _ _ [_,_,_,_,_] _ _;refine Ez ?_;intro k_ cI;refine Dw ?_;intro g_ ag bq;refine DF ?_;intro g_ ag;show aa .held _ _ _ [_,_,_,_] _ _;refine zm ?_;refine zl ?_;refine zb ?_;refine iO ?_;refine zb ?_;refine Q4 ?_;intro k_ cI;refine E0 ?_;intro g_ ag bq;refine HG ?_;intro g_ ag bq;refine H6 ?_;intro g_ ag bq;refine zl ?_;refine zA (heq) ?_;refine Q4 ?_;refine EJ ?_;intro g_ ag;show aa .held _ _ _ [_,_] _ _;refine aa.cY rfl rfl rfl rfl rfl rfl ?_;refine za ?_;refine Q4 ?_;intro k_ cI;refine nz ?_;refine zw ?_;refine oz ?_;refine vg ?_)
           exact LJ
        ·rw[cz (l:=s.cl) (by omega)] at sK
         have iY:=bY aP (by rw[dp,jc,if_neg (by rw[FC,sK];simp)])
         rw[iY] at aR
         rw[aR]
         (refine ng ?_;refine e_ ?_;refine Km ?_;refine uQ ?_;(with_reducible apply AW.ft 14 9 12 3);(iterate 3 exact rfl);refine j2 ?_)
         (apply az;(exact bD.two (.tmp rfl rfl) (.tmp rfl rfl));(refine tt ?_;refine fu.cons ?_ ?_;refine Le.aw ?_;(first|rfl|simp);exact fu.nil))
      ·have iY:=bY aP (by rw[dp,jc,if_neg (by rintro⟨_,⟨_,h⟩,_⟩;exact m2 h)])
       rw[iY] at aR
       rw[aR]
       (refine fF ?_;(focus ((with_reducible apply aa.ak);(iterate 7 exact rfl);rotate_left;omega));refine Q3 ?_;(with_reducible apply aa.inline (hf:=Try.func50));(with_reducible assumption);(iterate 10 exact rfl);intro g_ aY aW;refine AM ?_;(with_reducible apply AW.bn);exact rfl;exact rfl;kernel_rfl;(with_reducible assumption);refine Om ?_;(iterate 9 refine aa.dK rfl rfl rfl rfl rfl rfl (by first|omega|decide) ?_);refine zT ?_;refine uQ ?_;(with_reducible apply AW.ft 14 9 12 3);(iterate 3 exact rfl);refine j2 ?_)
       (apply az;(exact bD.two (.tmp rfl rfl) (.tmp rfl rfl));(refine tt ?_;refine fu.cons ?_ ?_;refine Le.aw ?_;(first|rfl|simp);exact fu.nil))
     ·have iY:=bY aP (by rw[dp,jc,if_neg (by rintro⟨_,⟨h,_⟩,_⟩;exact m1 h)])
      rw[iY] at aR
      rw[aR]
      (refine fF ?_;(focus ((with_reducible apply aa.ak);(iterate 7 exact rfl);rotate_left;omega));refine Q3 ?_;(with_reducible apply aa.inline (hf:=Try.func50));(with_reducible assumption);(iterate 10 exact rfl);intro g_ aY aW;refine AM ?_;(with_reducible apply AW.bn);exact rfl;exact rfl;kernel_rfl;(with_reducible assumption);refine zb ?_;refine BM ?_;refine ry ?_;refine ml ?_;refine zA (hw) ?_;refine uI ?_;refine zl ?_;refine aa.ah 30 2 2 rfl rfl rfl rfl ?_;refine zl ?_;refine zb ?_;refine zl ?_;refine zs ?_;refine aa.dr rfl rfl rfl rfl rfl rfl ?_;refine zm ?_;(iterate 8 refine aa.dK rfl rfl rfl rfl rfl rfl (by first|omega|decide) ?_);refine zT ?_;refine zm ?_;refine G6 ?_;refine uQ ?_;(with_reducible apply AW.ft 14 9 12 3);(iterate 3 exact rfl);refine j2 ?_)
      (apply az;(exact bD.two (.tmp rfl rfl) (.tmp rfl rfl));(refine tt ?_;refine fu.cons ?_ ?_;refine Le.aw ?_;(first|rfl|simp);exact fu.nil))
   have vq:dQ (so kV) l[i].kind=none:=by rw[mj,if_neg k1,if_neg k2,if_neg k3,if_neg k4]
   have iY:=bY aP (xw (e:=⟨v,cl,syms⟩) (s:=s) k1 k2 k3 k4)
   rw[iY] at aR
   rw[aR]
   (refine fF ?_;(focus ((with_reducible apply aa.ak);(iterate 7 exact rfl);rotate_left;omega));refine aa.sa rfl rfl rfl rfl ?_;refine nz ?_;refine sZ ?_;refine za ?_;refine zB ?_;refine nz ?_;refine zd ?_;refine lZ ?_;refine aa.ah 30 0 0 rfl rfl rfl rfl ?_;refine zb ?_;refine aa.xm rfl rfl rfl rfl rfl rfl rfl rfl (by with_reducible assumption) ?_;refine Hw ?_;refine ju ?_;refine mc ?_;refine uI ?_;refine tP ?_;refine rj ?_;(with_reducible apply AW.ft 14 9 12 3);(iterate 3 exact rfl);refine j2 ?_)
   (apply az;(exact bD.two (.tmp rfl rfl) (.tmp rfl rfl));(refine tt ?_;refine fu.cons ?_ ?_;refine Le.aw ?_;(first|rfl|simp);exact fu.nil))
  ·rw[List.drop_eq_nil_of_le (by omega),iS] at aR
   have QB:i=l.length:=by omega
   have hR1:R.1.ref=s.ref:=by rw[aR]
   have hR2:R.2=l.length:=by rw[aR,QB];simp
   rw[hR1,hR2]
   (refine zq ?_;refine xB ?_;(with_reducible apply AW.ft 16 9 2 3);(iterate 3 exact rfl);(try refine nz ?_);refine zq ?_;refine aa.nq rfl rfl rfl ?_;refine zm ?_;refine zn ?_;refine aa.fW rfl rfl rfl ?_;refine e_ ?_)
   (apply az;(exact bD.two (.tmp rfl rfl) (.tmp rfl rfl));(refine tt ?_;refine fu.cons ?_ ?_;refine Le.aw ?_;(rfl);exact fu.nil))
end Go.Ab
