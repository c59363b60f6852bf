/- Chapter 23: the checker's run. -/
import Derived.Test.YtigjjjpcjnifhaaAtC3
import Derived.Test.YtigjjjpcjnifhaaAbZ
import Derived.Test.YtigjjjpcjnifhaaAbL3
import Derived.Test.YtigjjjpcjnifhaaAtU5
set_option linter.unusedSimpArgs false
set_option linter.unusedVariables false
namespace Go.Ab
open Go Go.Proofs
open Nat (reduceAdd reduceSub)
set_option maxRecDepth 20000
set_option maxHeartbeats 8000000
attribute [local irreducible] AW AOps thenD inBlockD AR iterEnds roundEndsN inlEnds noGotoD canon sortL compL compZ metB imgL withinM symOk refImplM
theorem clone2_fnO (l:List (List Int)) (hl:l.length≤1000000):FnO Try.prog 51 [.pv (intss l)] 28 1 (l.map fun c=>[ints c]):=by
 refine FnO.enter (n:=8) Try.func51 rfl rfl rfl rfl rfl (by decide) fun g hro_ hwt_=>?_;(try refine nz ?_)
 by_cases h0:l=[]
 ·subst h0
  have e0:([]:List (List Int)).length=0:=rfl
  (refine Q173 ?_;refine Q262 ?_;(focus ((with_reducible apply AOps.eqlNil);(iterate 6 exact rfl);all_goals intro hc_));refine Q93 ?_;(all_goals skip);rotate_left;refine Q301 ?_;refine zm ?_;(with_reducible apply AOps.appendS);exact rfl;(first|exact .pv rfl|exact .own rfl|exact .nil rfl);(iterate 9 exact rfl);(first|omega|(simp only[List.length_map,List.length_append,List.length_cons,List.length_nil,List.length_drop,List.length_take,List.length_set,List.length_range,chunk_len];omega));refine nz ?_;refine Q269 ?_;(all_goals skip);rotate_left)
  all_goals ((first|(refine endsO_ret (Res.one (.tmp rfl rfl)) ?_)|(refine endsO_ret (Res.one (.cell1 rfl rfl rfl rfl)) ?_)|(refine endsO_nil (Res.one (.tmp rfl rfl)) ?_));(first|rfl|simp))
 ·have e0:0<l.length:=List.length_pos_iff.2 h0
  have e1:¬(l.map fun c=>[ints c])=[]:=by simpa using h0
  clear h0
  (refine Q173 ?_;refine Q262 ?_;(focus ((with_reducible apply AOps.eqlNil);(iterate 6 exact rfl);all_goals intro hc_));refine Q93 ?_;(all_goals skip);rotate_left;refine Q301 ?_;refine zm ?_;(with_reducible apply AOps.appendS);exact rfl;(first|exact .pv rfl|exact .own rfl|exact .nil rfl);(iterate 9 exact rfl);(first|omega|(simp only[List.length_map,List.length_append,List.length_cons,List.length_nil,List.length_drop,List.length_take,List.length_set,List.length_range,chunk_len];omega));refine nz ?_;refine Q269 ?_;(all_goals skip);rotate_left)
  ·exact absurd hc_ e1
  ·((first|(refine endsO_ret (Res.one (.tmp rfl rfl)) ?_)|(refine endsO_ret (Res.one (.cell1 rfl rfl rfl rfl)) ?_)|(refine endsO_nil (Res.one (.tmp rfl rfl)) ?_));(first|rfl|simp))
theorem any0_fn (cl:List (List Int)) (hl:cl.length≤1000000):Fn Try.prog 28 [.pv (intss cl),.clo (.func 52) [] []] (litB (cl.any fun c=>decide ((c.length:Int)=0))):=by
 refine Fn.enter (n:=9) Try.func28 rfl rfl rfl rfl rfl (by decide) fun g hro_ hwt_=>?_;(try refine nz ?_)
 (refine zq ?_;refine Q145 ?_;refine zm ?_;refine AOps.move_clo rfl rfl rfl ?_;(with_reducible apply AOps.inline (hf:=Try.func58));(with_reducible assumption);(iterate 10 exact rfl);intro g_ hro_ hwt_;refine Q131 ?_;refine Q61 ?_;refine Q305 ?_)
 (refine nz ?_;apply AW.loopR [7,0,1,1006,1005,1004,1000,1001] [] (fun k:Nat=>([(8,litI k)]:List (Nat×AV))) (fun k:Nat=>([]:List (Nat×Option Ob))) (fun k:Nat=>k≤cl.length∧(cl.take k).any (fun c=>decide ((c.length:Int)=0))=false) (fun k:Nat=>cl.length - k) (0);(conv=>lhs;simp only[Nf.lpR,Nf.all,Nat.reduceBEq,reduceAdd,reduceSub]);(all_goals skip))
 ·exact⟨Nat.zero_le _,rfl⟩
 ·exact weak rfl (by(refine⟨.eq rfl rfl,?_⟩;(iterate 8 refine⟨.eq rfl rfl,?_⟩);exact trivial)) (by(exact trivial)) rfl
 rintro k ⟨hk,han⟩
 by_cases hlt:k<cl.length
 ·have hns:=any_snoc (p:=fun c:List Int=>decide ((c.length:Int)=0)) hlt
  rw[han,Bool.false_or] at hns
  by_cases he:(cl[k].length:Int)=0
  ·rw[any_yes (p:=fun c:List Int=>decide ((c.length:Int)=0)) hlt (decide_eq_true he)]
   (refine Q243 ?_;(focus ((with_reducible apply AOps.index_map);(iterate 7 exact rfl);rotate_left;omega));refine zr ?_;(with_reducible apply AOps.inline (hf:=Try.func52));(with_reducible assumption);(iterate 10 exact rfl);intro g_ hro_ hwt_;refine Q247 ?_;refine zm ?_;refine zn ?_;refine AOps.eql rfl rfl rfl rfl rfl ?_;refine Q28 ?_;refine Q64 ?_;refine Q185 ?_;refine Q238 ?_;refine Q64 ?_;refine Q256 ?_)
   (apply ends_ret;(exact Res.one (.tmp rfl rfl));(refine Le.litB ?_;(first|rfl|exact decide_eq_true (by omega))))
  ·rw[decide_eq_false he] at hns
   (refine Q243 ?_;(focus ((with_reducible apply AOps.index_map);(iterate 7 exact rfl);rotate_left;omega));refine zr ?_;(with_reducible apply AOps.inline (hf:=Try.func52));(with_reducible assumption);(iterate 10 exact rfl);intro g_ hro_ hwt_;refine Q247 ?_;refine zm ?_;refine zn ?_;refine AOps.eql rfl rfl rfl rfl rfl ?_;refine Q28 ?_;refine Q64 ?_;refine Q307 ?_;refine Q136 ?_;refine Q79 ?_)
   exact⟨k+1,⟨by omega,hns⟩,by omega,weak rfl (by(refine⟨.eq rfl rfl,?_⟩;(iterate 8 refine⟨.eq rfl rfl,?_⟩);exact trivial)) (by(exact trivial)) rfl⟩
 ·rw[take_all (l:=cl) (by omega)] at han
  rw[han]
  (refine Q208 ?_;refine Q195 ?_;refine Q64 ?_;refine Q256 ?_)
  (apply ends_ret;(exact Res.one (.tmp rfl rfl));(refine Le.litB ?_;(first|rfl|exact decide_eq_false (by omega))))
theorem valid_len (e:EnM):e.valid.length=e.syms.length:=by unfold EnM.valid;simp
theorem valid_at (e:EnM) {k:Nat} (h:k<e.syms.length):e.valid[k]'(by rw[valid_len];exact h)=symOk e.v0 e.cl0 e.syms[k]:=by simp [EnM.valid]
theorem valid_def (e:EnM):e.valid=e.syms.map (symOk e.v0 e.cl0):=rfl
theorem stepC_2 {e:EnM} {s:StM} {t:StepM} (h:t.kind=2):stepC e s t=removeC s t:=by unfold stepC;rw[if_neg (by omega),if_pos h]
theorem stepC_3 {e:EnM} {s:StM} {t:StepM} (h:t.kind=3):stepC e s t=defineC s t:=by unfold stepC;rw[if_neg (by omega),if_neg (by omega),if_pos h]
theorem stepC_4 {e:EnM} {s:StM} {t:StepM} (h:t.kind=4):stepC e s t=symmC e s t:=by unfold stepC;rw[if_neg (by omega),if_neg (by omega),if_neg (by omega),if_pos h]
theorem stepC_5 {e:EnM} {s:StM} {t:StepM} (h1:¬t.kind=1) (h2:¬t.kind=2) (h3:¬t.kind=3) (h4:¬t.kind=4):stepC e s t=none:=by unfold stepC;rw[if_neg h1,if_neg h2,if_neg h3,if_neg h4]
theorem runC_nil (e:EnM) (s:StM):runC e s []=(s,0):=by unfold runC;rfl
theorem findIdx_at {α:Type} {p:α→Bool}:∀{l:List α} {j:Nat} (hj:j<l.length),(l.take j).any p=false→p l[j]=true→l.findIdx p=j
 |[],j,hj,_,_=>by simp at hj
 |x::l,0,hj,_,h=>by simp at h;simp [List.findIdx_cons,h]
 |x::l,j+1,hj,h1,h2=>by
  simp only[List.take_succ_cons,List.any_cons,Bool.or_eq_false_iff] at h1
  have:=findIdx_at (l:=l) (by simpa using hj) h1.2 (by simpa using h2)
  simp [List.findIdx_cons,h1.1,this]
theorem stepC_1 {e:EnM} {s:StM} {t:StepM} (h:t.kind=1):stepC e s t=learnC s t:=by unfold stepC;rw[if_pos h]
theorem AOps.delL (j:Nat) (l:List (List Int)) {g:Ghost} {δ:DS} {ops:Array Oper} {rest:List Oper} {Q:Exit→DS→Prop} {dst:Option Nat} {ty:TypeId} {pos:String} {af:Array Edge} {x y z:Operand} {tys:Array TypeId} {r:Nat} {e:TypeId} {m:Int}
  (hx:δ.ev x=.own r e 1 (l.map fun c=>[ints c])) (hy:δ.ev y=litI (j:Nat)) (hz:δ.ev z=litI m) (hr:δ.ob r=some .row) (ho:okT x=true) (ho':okT y=true) (hoz:okT z=true) (hd:okD δ.n dst=true) (hm:m=(j:Int)+1) (hi:j<l.length)
  (hK:AOps .plain Try.prog g ops rest Q ((δ.mapV (AV.kill r)).putd dst (.own r e 1 ((l.eraseIdx j).map fun c=>[ints c])))):
  AOps .plain Try.prog g ops (⟨dst,.call {callee:=.value (.func 67),args:= #[x,y,z],argTypes:=tys},ty,pos,af,none⟩::rest) Q δ:=AOps.delC del_C hx hy hz hr ho ho' hoz hd hm hi hK
theorem AW.give6 (id t u i:Nat) {P:Program} {g:Ghost} {δ:DS} {Q:Exit→DS→Prop} {b:Bool} {l:Array Oper} {p:PV} {c0 c1 c2 c3 c4:AV} {rf:Bool} (h:δ.get t=.ptr i 0) (hu:δ.get u=.pv p) (hb:δ.ob i=some (.box [c0,c1,c2,c3,c4,litB rf]))
  {cc:Code} (hK:AW P g ((Code.region id l b).seq cc) Q {n:=δ.n,env:=[(t,.rptr [.any,.any,.any,.any,.any,.lit (.bool rf)]),(u,.pv p)],objs:=[],nx:=δ.nx}):AW P g ((Code.region id l b).seq cc) Q δ:=
 AW.weak (δ':={n:=δ.n,env:=[(t,.rptr [.any,.any,.any,.any,.any,.lit (.bool rf)]),(u,.pv p)],objs:=[],nx:=δ.nx}) (Go.Ab.weak rfl ⟨by rw[h];exact .fbox hb rfl (.cons (.any _) (.cons (.any _) (.cons (.any _) (.cons (.any _) (.cons (.any _) (.cons (.pv _) .nil)))))),by rw[hu];exact .eq rfl rfl,trivial⟩ trivial rfl) hK
def ruleL:List (Int×Go.Fn):=[(1,.func 47),(2,.func 48),(3,.func 49),(4,.func 50)]
theorem rule_at (k:Int):lookI (fnL ruleL) k=if k=1 then some (fnV (.func 47)) else if k=2 then some (fnV (.func 48)) else if k=3 then some (fnV (.func 49)) else if k=4 then some (fnV (.func 50)) else none:=rfl
theorem rule_ob:some (Ob.mp (mpI ([]++ [(1,fnV (.func 47))]++ [(2,fnV (.func 48))]++ [(3,fnV (.func 49))]++ [(4,fnV (.func 50))])))=some (Ob.mp (mpI (fnL ruleL))):=rfl
theorem symOk_facts {v:Int} {cl:List (List Int)} {sy:List Int} (h:symOk v cl sy=true):(sy.length:Int)=v∧withinM v sy=true:=by
 unfold symOk at h
 simp only[Bool.and_eq_true,decide_eq_true_eq] at h
 exact⟨h.1.1.1,h.1.1.2⟩
attribute [local irreducible] fnL fnP ruleL runC stepC EnM.valid
theorem run_fn (v:Int) (cl:List (List Int)) (syms:List (List Int)) (l:List StepM) (hs0:StOk 1000 (startC v cl)) (hsy:syms.length≤1000∧∀c∈syms,c.length≤1000) (hl:wS l≤900000∧∀t∈l,t.lits.length≤900):
  Fn Try.prog 23 [fml v cl,.pv (intss syms),.pv (steps l)] (.tup [.rptr [.any,.any,.any,.any,.any,.lit (.bool (runC ⟨v,cl,syms⟩ (startC v cl) l).1.ref)],litI ((runC ⟨v,cl,syms⟩ (startC v cl) l).2:Nat)]):=by
 have hf:FOk v cl:=hs0.f (by omega)
 have hcl0:cl.length≤1000:=hs0.len
 have hv0:0≤v∧v≤20000:=hs0.hv
 have hlen:=wS_len l
 have hcn:=clone2_fnO cl (by omega)
 have ha0:=any0_fn cl (by omega)
 have hstart:startC v cl=⟨v,cl,cl.any fun c=>decide ((c.length:Int)=0)⟩:=rfl
 refine Fn.enter (n:=83) Try.func23 rfl rfl rfl rfl rfl (by decide) fun g hro_ hwt_=>?_;(try refine nz ?_)
 (refine zq ?_;refine AOps.box rfl rfl rfl rfl ?_;refine nz ?_;refine Q172 ?_;refine Q52 ?_;refine AOps.makeMap (t:=82) rfl ?_;refine nz ?_;(iterate 4 refine Q217 ?_);refine AOps.move_mapr rfl rfl rfl ?_;refine AOps.assign_mapr rfl rfl rfl ?_;refine zd ?_;refine zo ?_;refine AW.regionM [0,1,2,3,6,7,8] [] rfl (by assumption) (by kernel_rfl) (by kernel_rfl) rfl ?_;show AOps .held _ _ _ [_,_,_,_,_,_,_] _ _;refine Q80 ?_;refine Q60 ?_;refine Q80 ?_;refine zm ?_;refine Q4 ?_;intro k_ hk_;refine nz ?_;refine AR.step1M (i:=4) rfl (by kernel_rfl) rfl ?_;intro g_ hgro_ hw_;(with_reducible apply AOps.callo (hcn));(repeat (first|exact .nil|(refine .cons rfl ?_ ?_;(first|exact .pv _|exact .own _ _ _ _ rfl|exact .nil _|exact .any _|exact .rptr _|(refine .aggL ?_;repeat (first|exact .nil|(refine .cons ?_ ?_;(first|exact .pv _|exact .own _ _ _ _ rfl|exact .nil _))))))));exact rfl;refine Q205 ?_;refine AR.free 5 (by kernel_rfl) rfl rfl rfl (Frees.build 24 [0,1] rfl rfl rfl rfl rfl rfl rfl rfl) ?_;(try refine nz ?_);refine AR.free 9 (by kernel_rfl) rfl rfl rfl (Frees.build 56 [0,2,3] rfl rfl rfl rfl rfl rfl rfl rfl) ?_;(try refine nz ?_);refine AR.step1M (i:=10) rfl (by kernel_rfl) rfl ?_;intro g_ hgro_ hw_;refine AOps.box rfl rfl rfl rfl ?_;refine Q205 ?_;refine AR.readsM [11] (by kernel_rfl) (by kernel_rfl) (by kernel_rfl) (by kernel_rfl) ?_;intro g_ hgro_;show AOps .held _ _ _ [_] _ _;refine AOps.assign_ptr rfl rfl rfl ?_;refine Q4 ?_;intro k_ hk_;refine nz ?_;refine AR.doneM (by assumption) (by kernel_rfl) ?_;refine thenD_n ?_;refine Q181 ?_;refine Q60 ?_;(refine AOps.callF ha0 (.cons rfl (.pv _) .nil) rfl rfl (fun h=>by cases h) ?_);(try refine nz ?_);refine AOps.nilCheck_ptr rfl rfl rfl ?_;refine AOps.fieldAddrN 56 4 5 rfl rfl rfl rfl ?_;refine Q20 ?_;refine zd ?_;refine zo ?_;refine zq ?_;refine Q190 ?_)
 refine AW.weak (δ':={n:=83,env:=[(8,.pv (.mp (fnP ruleL))),(37,litI 0),(36,litI syms.length),(35,.pv (intss syms)),(9,.ptr 3 0),(3,.ptr 0 0),(2,.pv (steps l))],objs:=[(3,some (.box [litI v,.own 2 28 1 (cl.map fun c=>[ints c]),litI v,.pv (intss syms),.pv (.lit (.slice none 0 0)),litB (cl.any fun c=>decide ((c.length:Int)=0))])),(2,some .row),(0,some (.box [litI v,.pv (intss cl)]))],nx:=4}) (Go.Ab.weak rfl ⟨.fns (l:=ruleL) rule_ob rfl,.eq rfl rfl,.eq rfl rfl,.eq rfl rfl,.eq rfl rfl,.eq rfl rfl,.eq rfl rfl,trivial⟩ ⟨.box _ rfl ⟨.eq rfl rfl,.eq rfl rfl,.eq rfl rfl,.eq rfl rfl,.eq rfl rfl,.eq rfl rfl,trivial⟩,.row rfl,.box _ rfl ⟨.eq rfl rfl,.eq rfl rfl,trivial⟩,trivial⟩ rfl) ?_
 (apply AW.loopR [8,36,35,9,3,2] [2,0] (fun i:Nat=>([(37,litI i)]:List (Nat×AV))) (fun i:Nat=>([(3,some (.box [litI v,.own 2 28 1 (cl.map fun c=>[ints c]),litI v,.pv (intss syms),.own 4 4 1 (((syms.take i).map (symOk v cl)).map encB),litB (cl.any fun c=>decide ((c.length:Int)=0))])),(4,some .row)]:List (Nat×Option Ob))) (fun i:Nat=>i≤syms.length) (fun i:Nat=>syms.length - i) (0);(conv=>lhs;simp only[Nf.lpR,Nf.all,Nat.reduceBEq,reduceAdd,reduceSub]);(all_goals skip))
 ·exact Nat.zero_le _
 ·exact Q7
 rintro i hi
 by_cases hlt:i<syms.length
 ·have hso:=symOk_fn v cl syms[i] hf (by have:=hsy.2 _ (List.getElem_mem hlt);omega)
  have hts:(syms.take (i+1)).map (symOk v cl)=(syms.take i).map (symOk v cl)++ [symOk v cl syms[i]]:=by rw[take_succ_get hlt,List.map_append];rfl
  have htl:((syms.take i).map (symOk v cl)).length≤1000:=by simp;omega
  (refine Q22 ?_;(focus ((with_reducible apply AOps.index_map);(iterate 7 exact rfl);rotate_left;omega));refine zr ?_;refine Q11 ?_;refine AW.regionM [0,1,2,3,4,5,6] [12] rfl (by assumption) (by kernel_rfl) (by kernel_rfl) rfl ?_;show AOps .held _ _ _ [_,_,_,_,_,_,_] _ _;refine Q50 ?_;refine AOps.fieldAddrN 56 3 4 rfl rfl rfl rfl ?_;refine zb ?_;refine Q284 ?_;refine zm ?_;refine Q4 ?_;intro k_ hk_;refine nz ?_;refine AR.step1M (i:=7) rfl (by kernel_rfl) rfl ?_;intro g_ hgro_ hw_;refine zA (hso) ?_;refine Q4 ?_;refine AR.step1M (i:=8) rfl (by kernel_rfl) rfl ?_;intro g_ hgro_ hw_;refine Q71 ?_;refine Q331 ?_;intro g_ hgro_ hw_;(with_reducible apply AOps.appendS);exact rfl;(first|exact .pv rfl|exact .own rfl|exact .nil rfl);(iterate 9 exact rfl);(first|omega|(simp only[List.length_map,List.length_append,List.length_cons,List.length_nil,List.length_drop,List.length_take,List.length_set,List.length_range,chunk_len];omega));refine Q205 ?_;refine AR.readsM [10,11] (by kernel_rfl) (by kernel_rfl) (by kernel_rfl) (by kernel_rfl) ?_;intro g_ hgro_;show AOps .held _ _ _ [_,_] _ _;refine AOps.nilCheck_ptr rfl rfl rfl ?_;refine AOps.fieldAddrN 56 3 4 rfl rfl rfl rfl ?_;refine Q4 ?_;intro k_ hk_;refine nz ?_;refine Q101 ?_;intro g_ hgro_ hwt2_;refine Q20 ?_;refine Q31 ?_;refine Q29 ?_;refine Q79 ?_)
  exact⟨i+1,by omega,by omega,weak rfl (by(refine⟨.intE (by first|rfl|(rw[hts,List.map_append];rfl)),?_⟩;refine⟨.eq rfl rfl,?_⟩;refine⟨.intE (by first|rfl|(rw[hts,List.map_append];rfl)),?_⟩;refine⟨.pvE (by first|rfl|(rw[hts,List.map_append];rfl)),?_⟩;(iterate 2 refine⟨.eq rfl rfl,?_⟩);refine⟨.pvE (by first|rfl|(rw[hts,List.map_append];rfl)),?_⟩;exact trivial)) (by(refine⟨.box _ rfl ?_,?_⟩;refine⟨.intE (by first|rfl|(rw[hts,List.map_append];rfl)),?_⟩;refine⟨.ownE (by first|rfl|(rw[hts,List.map_append];rfl)) rfl,?_⟩;refine⟨.intE (by first|rfl|(rw[hts,List.map_append];rfl)),?_⟩;refine⟨.pvE (by first|rfl|(rw[hts,List.map_append];rfl)),?_⟩;refine⟨.ownE (by first|rfl|(rw[hts,List.map_append];rfl)) rfl,?_⟩;refine⟨.boolE (by first|rfl|(rw[hts,List.map_append];rfl)),?_⟩;exact trivial;(iterate 2 refine⟨.row rfl,?_⟩);refine⟨.box _ rfl ?_,?_⟩;refine⟨.intE (by first|rfl|(rw[hts,List.map_append];rfl)),?_⟩;refine⟨.pvE (by first|rfl|(rw[hts,List.map_append];rfl)),?_⟩;(iterate 2 exact trivial))) rfl⟩
 ·rw[take_all (l:=syms) (by omega)]
  have hvl:=valid_len ⟨v,cl,syms⟩
  have hvd:=(valid_def ⟨v,cl,syms⟩).symm
  simp only at hvd hvl
  rw[hvd]
  have hr0:runC ⟨v,cl,syms⟩ (startC v cl) l=((runC ⟨v,cl,syms⟩ (startC v cl) (l.drop 0)).1,(runC ⟨v,cl,syms⟩ (startC v cl) (l.drop 0)).2+0):=by rw[List.drop_zero];rfl
  generalize runC ⟨v,cl,syms⟩ (startC v cl) l=R at hr0 ⊢
  (refine Q208 ?_;refine zo ?_;refine Q305 ?_)
  clear hi hlt
  (refine nz ?_;apply AW.loopR [55,54,8,9,2] [4,2] (fun p:Nat×StM=>([(56,litI p.1)]:List (Nat×AV))) (fun p:Nat×StM=>([(3,some (.box [litI p.2.vars,.own 2 28 1 (p.2.cl.map fun c=>[ints c]),litI v,.pv (intss syms),.own 4 4 1 ((EnM.valid ⟨v,cl,syms⟩).map encB),litB p.2.ref]))]:List (Nat×Option Ob))) (fun p:Nat×StM=>p.1≤l.length∧StOk (1000+wS (l.take p.1)) p.2∧R=((runC ⟨v,cl,syms⟩ p.2 (l.drop p.1)).1,(runC ⟨v,cl,syms⟩ p.2 (l.drop p.1)).2+p.1)) (fun p:Nat×StM=>l.length - p.1) ((0,startC v cl));(conv=>lhs;simp only[Nf.lpR,Nf.all,Nat.reduceBEq,reduceAdd,reduceSub]);(all_goals skip))
  ·exact⟨Nat.zero_le _,hs0,hr0⟩
  ·exact Q7
  rintro⟨i,s⟩ ⟨hi,hok,hrun⟩
  simp only at hi hok hrun ⊢
  have hwi:=wS_take l i
  by_cases hlt:i<l.length
  ·have hL:=hl.2 _ (List.getElem_mem hlt)
   have hsv:=hok.hv
   have hfs:=hok.f (by omega)
   have hsl:=hok.len
   have hw:=cWithin_fn s.vars l[i].lits (by omega)
   by_cases k1:l[i].kind=1
   ·have hlk:lookI (fnL ruleL) l[i].kind=some (fnV (.func 47)):=by rw[rule_at,if_pos k1]
    have hst:stepC ⟨v,cl,syms⟩ s l[i]=learnC s l[i]:=stepC_1 k1
    by_cases c1:l[i].sym=0
    ·cases c2:withinM s.vars l[i].lits with
     |false=>
      rw[c2] at hw
      have hrn:=runC_none hlt (by rw[hst,learnC,if_neg (by rw[c2];simp)])
      rw[hrn] at hrun
      rw[hrun]
      (refine Q250 ?_;(focus ((with_reducible apply AOps.index_map);(iterate 7 exact rfl);rotate_left;omega));refine Q3 ?_;(with_reducible apply AOps.inline (hf:=Try.func47));(with_reducible assumption);(iterate 10 exact rfl);intro g_ hro_ hwt_;refine Q235 ?_;show AOps .held _ _ _ [_,_,_,_,_,_,_,_,_,_,_] _ _;refine Q70 ?_;refine Q23 ?_;refine AOps.fieldAddrN 30 1 1 rfl rfl rfl rfl ?_;refine zy ?_;refine zb ?_;refine Q4 ?_;intro k_ hk_;refine nz ?_;refine AR.step1M (i:=11) rfl (by kernel_rfl) rfl ?_;intro g_ hgro_ hw_;refine zy ?_;refine zA (hw) ?_;refine Q4 ?_;refine AR.readsM [12,13,14,15,16,17,18,19,20] (by kernel_rfl) (by kernel_rfl) (by kernel_rfl) (by kernel_rfl) ?_;intro g_ hgro_;show AOps .held _ _ _ [_,_,_,_,_,_,_,_,_] _ _;refine Q110 ?_;refine zm ?_;(iterate 6 refine AOps.guard_lf rfl rfl rfl rfl rfl rfl rfl ?_);refine Q4 ?_;intro k_ hk_;refine nz ?_;refine AR.step1M (i:=21) rfl (by kernel_rfl) rfl ?_;intro g_ hgro_ hw_;refine Q160 ?_;refine AR.readsM [22,23] (by kernel_rfl) (by kernel_rfl) (by kernel_rfl) (by kernel_rfl) ?_;intro g_ hgro_;show AOps .held _ _ _ [_,_] _ _;refine Q141 ?_;refine Q4 ?_;intro k_ hk_;refine nz ?_;refine Q74 ?_;(with_reducible apply AW.give6 14 9 12 3);(iterate 3 exact rfl);refine Q144 ?_)
      (apply ends_ret;(exact Res.two (.tmp rfl rfl) (.tmp rfl rfl));(refine Q98 ?_;refine LeL.cons ?_ ?_;refine Le.litI ?_;(first|rfl|simp);exact LeL.nil))
     |true=>
      rw[c2] at hw
      have him:=impl_fn s.vars s.cl l[i].lits hfs (by omega) c2
      cases c3:refImplM s.vars s.cl l[i].lits with
      |false=>
       rw[c3] at him
       have hrn:=runC_none hlt (by rw[hst,learnC,if_neg (by rw[c3];simp)])
       rw[hrn] at hrun
       rw[hrun]
       (refine Q250 ?_;(focus ((with_reducible apply AOps.index_map);(iterate 7 exact rfl);rotate_left;omega));refine Q3 ?_;(with_reducible apply AOps.inline (hf:=Try.func47));(with_reducible assumption);(iterate 10 exact rfl);intro g_ hro_ hwt_;refine Q147 ?_;(with_reducible apply AW.regionQ);exact rfl;exact rfl;kernel_rfl;(with_reducible assumption);refine Q326 ?_;(with_reducible apply AOps.load_bs);(iterate 3 exact rfl);(repeat' first|exact Sub.nil|apply Sub.take|apply Sub.skip);(iterate 3 exact rfl);refine Q263 ?_;refine Q175 ?_;(with_reducible apply AW.give6 14 9 12 3);(iterate 3 exact rfl);refine Q144 ?_)
       (apply ends_ret;(exact Res.two (.tmp rfl rfl) (.tmp rfl rfl));(refine Q98 ?_;refine LeL.cons ?_ ?_;refine Le.litI ?_;(first|rfl|simp);exact LeL.nil))
      |true=>
       rw[c3] at him
       have hsm:stepC ⟨v,cl,syms⟩ s l[i]=some (addC s l[i].lits):=by rw[hst,learnC,if_pos ⟨c1,c2,c3⟩]
       have hrn:=runC_some hlt hsm
       rw[hrn] at hrun
       have hok2:=hok.step2 hL hsm
       obtain⟨sv,scl,rf⟩:=s
       simp only[addC] at*
       cases rf with
       |true=>
        (refine Q250 ?_;(focus ((with_reducible apply AOps.index_map);(iterate 7 exact rfl);rotate_left;omega));refine Q3 ?_;(with_reducible apply AOps.inline (hf:=Try.func47));(with_reducible assumption);(iterate 10 exact rfl);intro g_ hro_ hwt_;refine Q147 ?_;(with_reducible apply AW.regionQ);exact rfl;exact rfl;kernel_rfl;(with_reducible assumption);refine Q326 ?_;(with_reducible apply AOps.load_bs);(iterate 3 exact rfl);(repeat' first|exact Sub.nil|apply Sub.take|apply Sub.skip);(iterate 3 exact rfl);refine Q263 ?_;refine Q134 ?_;refine AOps.move_ptr rfl rfl rfl ?_;refine Q117 ?_;(with_reducible apply AOps.inline (hf:=Try.func65));(with_reducible assumption);(iterate 10 exact rfl);intro g_ hro_ hwt_;refine Q131 ?_;refine Q125 ?_;refine zm ?_;refine Q71 ?_;(with_reducible apply AOps.appendS);exact rfl;(first|exact .pv rfl|exact .own rfl|exact .nil rfl);(iterate 9 exact rfl);(first|omega|(simp only[List.length_map,List.length_append,List.length_cons,List.length_nil,List.length_drop,List.length_take,List.length_set,List.length_range,chunk_len];omega));refine Q35 ?_;refine Q130 ?_;refine Q107 ?_;refine Q58 ?_)
        exact Q13
       |false=>
        (refine Q250 ?_;(focus ((with_reducible apply AOps.index_map);(iterate 7 exact rfl);rotate_left;omega));refine Q3 ?_;(with_reducible apply AOps.inline (hf:=Try.func47));(with_reducible assumption);(iterate 10 exact rfl);intro g_ hro_ hwt_;refine Q147 ?_;(with_reducible apply AW.regionQ);exact rfl;exact rfl;kernel_rfl;(with_reducible assumption);refine Q326 ?_;(with_reducible apply AOps.load_bs);(iterate 3 exact rfl);(repeat' first|exact Sub.nil|apply Sub.take|apply Sub.skip);(iterate 3 exact rfl);refine Q263 ?_;refine Q134 ?_;refine AOps.move_ptr rfl rfl rfl ?_;refine Q117 ?_;(with_reducible apply AOps.inline (hf:=Try.func65));(with_reducible assumption);(iterate 10 exact rfl);intro g_ hro_ hwt_;refine Q131 ?_;refine Q125 ?_;refine zm ?_;refine Q71 ?_;(with_reducible apply AOps.appendS);exact rfl;(first|exact .pv rfl|exact .own rfl|exact .nil rfl);(iterate 9 exact rfl);(first|omega|(simp only[List.length_map,List.length_append,List.length_cons,List.length_nil,List.length_drop,List.length_take,List.length_set,List.length_range,chunk_len];omega));refine Q35 ?_;refine Q130 ?_;refine Q91 ?_;refine zn ?_;refine Q204 ?_;refine Q58 ?_)
        exact Q13
    ·have hrn:=runC_none hlt (by rw[hst,learnC,if_neg (fun h=>c1 h.1)])
     rw[hrn] at hrun
     rw[hrun]
     (refine Q250 ?_;(focus ((with_reducible apply AOps.index_map);(iterate 7 exact rfl);rotate_left;omega));refine Q3 ?_;(with_reducible apply AOps.inline (hf:=Try.func47));(with_reducible assumption);(iterate 10 exact rfl);intro g_ hro_ hwt_;refine Q235 ?_;show AOps .held _ _ _ [_,_,_,_,_,_,_,_,_,_,_] _ _;refine Q70 ?_;(iterate 7 refine AOps.guardFn rfl rfl rfl rfl rfl rfl (by with_reducible assumption) ?_);refine Q4 ?_;intro k_ hk_;refine nz ?_;refine AR.step1M (i:=11) rfl (by kernel_rfl) rfl ?_;intro g_ hgro_ hw_;refine Q261 ?_;refine Q4 ?_;refine AR.readsM [12,13,14,15,16,17,18,19,20] (by kernel_rfl) (by kernel_rfl) (by kernel_rfl) (by kernel_rfl) ?_;intro g_ hgro_;show AOps .held _ _ _ [_,_,_,_,_,_,_,_,_] _ _;refine Q261 ?_;refine zT ?_;refine zm ?_;(iterate 6 refine AOps.guard_lf rfl rfl rfl rfl rfl rfl rfl ?_);refine Q4 ?_;intro k_ hk_;refine nz ?_;refine AR.step1M (i:=21) rfl (by kernel_rfl) rfl ?_;intro g_ hgro_ hw_;refine Q160 ?_;refine AR.readsM [22,23] (by kernel_rfl) (by kernel_rfl) (by kernel_rfl) (by kernel_rfl) ?_;intro g_ hgro_;show AOps .held _ _ _ [_,_] _ _;refine Q141 ?_;refine Q4 ?_;intro k_ hk_;refine nz ?_;refine Q74 ?_;(with_reducible apply AW.give6 14 9 12 3);(iterate 3 exact rfl);refine Q144 ?_)
     (apply ends_ret;(exact Res.two (.tmp rfl rfl) (.tmp rfl rfl));(refine Q98 ?_;refine LeL.cons ?_ ?_;refine Le.litI ?_;(first|rfl|simp);exact LeL.nil))
   by_cases k2:l[i].kind=2
   ·have hlk:lookI (fnL ruleL) l[i].kind=some (fnV (.func 48)):=by rw[rule_at,if_neg k1,if_pos k2]
    have hst:stepC ⟨v,cl,syms⟩ s l[i]=removeC s l[i]:=stepC_2 k2
    by_cases c1:l[i].sym=0
    ·cases c2:withinM s.vars l[i].lits with
     |false=>
      rw[c2] at hw
      have hrn:=runC_none hlt (by rw[hst,removeC,if_neg (by rw[c2];simp)])
      rw[hrn] at hrun
      rw[hrun]
      (refine Q250 ?_;(focus ((with_reducible apply AOps.index_map);(iterate 7 exact rfl);rotate_left;omega));refine Q3 ?_;(with_reducible apply AOps.inline (hf:=Try.func48));(with_reducible assumption);(iterate 10 exact rfl);intro g_ hro_ hwt_;refine Q147 ?_;(with_reducible apply AW.regionQ);exact rfl;exact rfl;kernel_rfl;(with_reducible assumption);refine Q211 ?_;refine Q175 ?_;(with_reducible apply AW.give6 14 9 12 3);(iterate 3 exact rfl);refine Q144 ?_)
      (apply ends_ret;(exact Res.two (.tmp rfl rfl) (.tmp rfl rfl));(refine Q98 ?_;refine LeL.cons ?_ ?_;refine Le.litI ?_;(first|rfl|simp);exact LeL.nil))
     |true=>
      rw[c2] at hw
      have hnw:=normal_fn l[i].lits (by omega)
      (refine Q250 ?_;(focus ((with_reducible apply AOps.index_map);(iterate 7 exact rfl);rotate_left;omega));refine Q3 ?_;(with_reducible apply AOps.inline (hf:=Try.func48));(with_reducible assumption);(iterate 10 exact rfl);intro g_ hro_ hwt_;refine Q147 ?_;(with_reducible apply AW.regionQ);exact rfl;exact rfl;kernel_rfl;(with_reducible assumption);refine Q211 ?_;refine Q134 ?_;refine Q117 ?_;refine zP (hnw) ?_;refine Q143 ?_;refine Q20 ?_;refine zd ?_;refine zq ?_;refine Q12 ?_;refine AOps.fieldAddrN 56 0 0 rfl rfl rfl rfl ?_;refine Q60 ?_;refine AOps.makeFunc_c rfl rfl rfl ?_;(with_reducible apply AOps.inline (hf:=Try.func58));(with_reducible assumption);(iterate 10 exact rfl);intro g_ hro_ hwt_;refine Q131 ?_;refine Q61 ?_;refine Q207 ?_;refine AOps.len_own_map rfl rfl rfl rfl ?_;refine Q337 ?_)
      (refine nz ?_;apply AW.loopR [7,0,1,1029,1028,1027,1026,1025,1024,1005,1015,1014,1013,1012,1009,1008,1004,1000,2073,2072,2071,2070,2069,2068,2015,2014,2012,2013,2056,2055,2054,2008,2009,2002] [7,6,5,3,4,2] (fun j:Nat=>([(8,litI j)]:List (Nat×AV))) (fun j:Nat=>([]:List (Nat×Option Ob))) (fun j:Nat=>j≤s.cl.length∧(s.cl.take j).any (eqC l[i].lits)=false) (fun j:Nat=>s.cl.length - j) (0);(conv=>lhs;simp only[Nf.lpR,Nf.all,Nat.reduceBEq,reduceAdd,reduceSub]);(all_goals skip))
      ·exact⟨Nat.zero_le _,rfl⟩
      ·exact Q7
      rintro j ⟨hj,han⟩
      by_cases hlj:j<s.cl.length
      ·obtain⟨d1,d2⟩:=hfs.hcl _ (List.getElem_mem hlj)
       have hnd:=normal_fn s.cl[j] (by omega)
       have heq:=sEqual_fn (canon s.cl[j]) (canon l[i].lits)
       have hns:=any_snoc (p:=eqC l[i].lits) hlj
       rw[han,Bool.false_or] at hns
       by_cases he:canon s.cl[j]=canon l[i].lits
       ·rw[decide_eq_true he] at heq
        have hey:eqC l[i].lits s.cl[j]=true:=decide_eq_true he
        have hsm:stepC ⟨v,cl,syms⟩ s l[i]=some ⟨s.vars,s.cl.eraseIdx j,s.ref⟩:=by rw[hst,removeC,if_pos ⟨c1,c2,any_yes hlj hey⟩,findIdx_at hlj han hey]
        have hrn:=runC_some hlt hsm
        rw[hrn] at hrun
        have hok2:=hok.step2 hL hsm
        (refine Q302 ?_;(focus ((with_reducible apply AOps.load_o1_mapI);(iterate 4 exact rfl);exact(fun h_=>by cases h_);rotate_left;(first|omega|exact Nat.zero_lt_one|(simp;done))));(with_reducible apply AOps.inline (hf:=Try.func66));(with_reducible assumption);(iterate 10 exact rfl);intro g_ hro_ hwt_;refine Q131 ?_;refine Q61 ?_;refine AW.regionM [0,2] [] rfl (by assumption) (by kernel_rfl) (by kernel_rfl) rfl ?_;show AOps .held _ _ _ [_,_] _ _;refine zm ?_;refine zb ?_;refine Q4 ?_;intro k_ hk_;refine nz ?_;refine AR.step1M (i:=1) rfl (by kernel_rfl) rfl ?_;intro g_ hgro_ hw_;refine zP (hnd) ?_;refine Q4 ?_;refine AR.step1M (i:=3) rfl (by kernel_rfl) rfl ?_;intro g_ hgro_ hw_;refine zA (heq) ?_;refine Q4 ?_;refine AR.readsM [4] (by kernel_rfl) (by kernel_rfl) (by kernel_rfl) (by kernel_rfl) ?_;intro g_ hgro_;show AOps .held _ _ _ [_] _ _;refine za ?_;refine Q4 ?_;intro k_ hk_;refine nz ?_;refine Q139 ?_;refine Q43 ?_;refine Q238 ?_;refine Q64 ?_;refine Q61 ?_;refine Q262 ?_;refine zs ?_;refine Q134 ?_;refine Q125 ?_;(iterate 2 refine zm ?_);refine zj ?_;(refine AOps.delL j s.cl rfl rfl rfl rfl rfl rfl rfl rfl (by omega) (by omega) ?_);(try refine nz ?_);refine Q152 ?_;refine AOps.fieldAddrN 24 1 1 rfl rfl rfl rfl ?_;refine Q20 ?_;refine zd ?_;refine zq ?_;refine Q28 ?_;refine Q64 ?_;refine Q32 ?_;refine Q67 ?_;refine Q270 ?_)
        exact⟨(i+1,_),⟨by show i+1≤l.length;omega,by show StOk (1000+wS (l.take (i+1))) _;rw[wS_succ hlt,← Nat.add_assoc];exact hok2,by show _=(_,_+(i+1));rw[hrun];simp [Nat.add_assoc,Nat.add_comm 1 i]⟩,by show l.length - (i+1)<l.length - i;omega,weak rfl (by(refine⟨.intE (by first|with_reducible rfl|(rfl)),?_⟩;refine⟨.intE (by first|with_reducible rfl|(rfl)),?_⟩;refine⟨.pvE (by first|with_reducible rfl|(rfl)),?_⟩;(iterate 2 refine⟨.eq rfl rfl,?_⟩);refine⟨.pvE (by first|with_reducible rfl|(rfl)),?_⟩;exact trivial)) (by(refine⟨.box _ rfl ?_,?_⟩;refine⟨.intE (by first|with_reducible rfl|(rfl)),?_⟩;refine⟨.ownE (by first|with_reducible rfl|(rfl)) rfl,?_⟩;refine⟨.intE (by first|with_reducible rfl|(rfl)),?_⟩;refine⟨.pvE (by first|with_reducible rfl|(rfl)),?_⟩;refine⟨.ownE (by first|with_reducible rfl|(rfl)) rfl,?_⟩;refine⟨.boolE (by first|with_reducible rfl|(rfl)),?_⟩;exact trivial;(iterate 2 refine⟨.row rfl,?_⟩);exact trivial)) rfl⟩
       ·rw[decide_eq_false he] at heq
        have hey:eqC l[i].lits s.cl[j]=false:=decide_eq_false he
        rw[hey] at hns
        (refine Q302 ?_;(focus ((with_reducible apply AOps.load_o1_mapI);(iterate 4 exact rfl);exact(fun h_=>by cases h_);rotate_left;(first|omega|exact Nat.zero_lt_one|(simp;done))));(with_reducible apply AOps.inline (hf:=Try.func66));(with_reducible assumption);(iterate 10 exact rfl);intro g_ hro_ hwt_;refine Q131 ?_;refine Q61 ?_;refine AW.regionM [0,2] [] rfl (by assumption) (by kernel_rfl) (by kernel_rfl) rfl ?_;show AOps .held _ _ _ [_,_] _ _;refine zm ?_;refine zb ?_;refine Q4 ?_;intro k_ hk_;refine nz ?_;refine AR.step1M (i:=1) rfl (by kernel_rfl) rfl ?_;intro g_ hgro_ hw_;refine zP (hnd) ?_;refine Q4 ?_;refine AR.step1M (i:=3) rfl (by kernel_rfl) rfl ?_;intro g_ hgro_ hw_;refine zA (heq) ?_;refine Q4 ?_;refine AR.readsM [4] (by kernel_rfl) (by kernel_rfl) (by kernel_rfl) (by kernel_rfl) ?_;intro g_ hgro_;show AOps .held _ _ _ [_] _ _;refine za ?_;refine Q4 ?_;intro k_ hk_;refine nz ?_;refine Q139 ?_;refine Q67 ?_;refine Q136 ?_;refine Q79 ?_)
        exact Q18
      ·rw[take_all (l:=s.cl) (by omega)] at han
       have hrn:=runC_none hlt (by rw[hst,removeC,if_neg (by rw[han];simp)])
       rw[hrn] at hrun
       rw[hrun]
       (refine Q208 ?_;refine Q195 ?_;refine Q64 ?_;refine Q61 ?_;refine Q262 ?_;refine zs ?_;refine Q175 ?_;(with_reducible apply AW.give6 14 9 12 3);(iterate 3 exact rfl);refine Q144 ?_)
       (apply ends_ret;(exact Res.two (.tmp rfl rfl) (.tmp rfl rfl));(refine Q98 ?_;refine LeL.cons ?_ ?_;refine Le.litI ?_;(first|rfl|simp);exact LeL.nil))
    ·have hrn:=runC_none hlt (by rw[hst,removeC,if_neg (fun h=>c1 h.1)])
     rw[hrn] at hrun
     rw[hrun]
     (refine Q250 ?_;(focus ((with_reducible apply AOps.index_map);(iterate 7 exact rfl);rotate_left;omega));refine Q3 ?_;(with_reducible apply AOps.inline (hf:=Try.func48));(with_reducible assumption);(iterate 10 exact rfl);intro g_ hro_ hwt_;refine Q235 ?_;show AOps .held _ _ _ [_,_,_,_,_,_,_,_,_,_,_] _ _;refine Q70 ?_;(iterate 7 refine AOps.guardFn rfl rfl rfl rfl rfl rfl (by with_reducible assumption) ?_);refine Q4 ?_;intro k_ hk_;refine nz ?_;refine AR.step1M (i:=11) rfl (by kernel_rfl) rfl ?_;intro g_ hgro_ hw_;refine Q261 ?_;refine Q4 ?_;refine Q295 ?_;intro g_ hgro_;show AOps .held _ _ _ [_,_] _ _;refine Q261 ?_;refine zT ?_;refine Q4 ?_;intro k_ hk_;refine nz ?_;refine Q74 ?_;(with_reducible apply AW.give6 14 9 12 3);(iterate 3 exact rfl);refine Q144 ?_)
     (apply ends_ret;(exact Res.two (.tmp rfl rfl) (.tmp rfl rfl));(refine Q98 ?_;refine LeL.cons ?_ ?_;refine Le.litI ?_;(first|rfl|simp);exact LeL.nil))
   by_cases k3:l[i].kind=3
   ·have hlk:lookI (fnL ruleL) l[i].kind=some (fnV (.func 49)):=by rw[rule_at,if_neg k1,if_neg k2,if_pos k3]
    have hst:stepC ⟨v,cl,syms⟩ s l[i]=defineC s l[i]:=stepC_3 k3
    have hwd:=cWithin_fn s.vars (l[i].lits.drop 1) (by omega)
    have hdl:(l[i].lits.drop 1).length=l[i].lits.length - 1:=List.length_drop
    by_cases d1:l[i].sym=0
    ·by_cases d2:2≤l[i].lits.length
     ·have d2':¬(l[i].lits.length:Int)<2:=by omega
      have h0:l[i].lits.getD 0 0=l[i].lits[0]:=by rw[List.getD_eq_getElem?_getD,List.getElem?_eq_getElem (by omega)];rfl
      by_cases d3:l[i].lits[0]=s.vars+1
      ·have d3':l[i].lits[(0:Int).toNat]'(by simp;omega)=s.vars+1:=d3
       by_cases d4:l[i].lits[0]≤20000
       ·have d4':l[i].lits[(0:Int).toNat]'(by simp;omega)≤20000:=d4
        cases d5:withinM s.vars (l[i].lits.drop 1) with
        |false=>
         rw[d5] at hwd
         have hrn:=runC_none hlt (by rw[hst,defineC,if_neg (by rintro⟨_,_,_,_,h⟩;rw[d5] at h;cases h)])
         rw[hrn] at hrun
         rw[hrun]
         (refine Q250 ?_;(focus ((with_reducible apply AOps.index_map);(iterate 7 exact rfl);rotate_left;omega));refine Q3 ?_;(with_reducible apply AOps.inline (hf:=Try.func49));(with_reducible assumption);(iterate 10 exact rfl);intro g_ hro_ hwt_;refine Q147 ?_;(with_reducible apply AW.regionQ);exact rfl;exact rfl;kernel_rfl;(with_reducible assumption);refine Q167 ?_;(focus ((with_reducible apply AOps.index_mapI);(iterate 7 exact rfl);omega;rotate_left;(first|omega|exact Nat.zero_lt_one|(simp;done))));refine Q146 ?_;refine Q154 ?_;refine Q45 ?_;(focus ((with_reducible apply AOps.index_mapI);(iterate 7 exact rfl);omega;rotate_left;(first|omega|exact Nat.zero_lt_one|(simp;done))));refine zy ?_;refine zr ?_;refine Q62 ?_;refine zm ?_;refine Q23 ?_;refine Q45 ?_;refine AOps.slice_frI rfl rfl rfl rfl rfl rfl rfl (by omega) (by omega) ?_;refine zy ?_;refine zA (hwd) ?_;refine Q110 ?_;refine Q175 ?_;(with_reducible apply AW.give6 14 9 12 3);(iterate 3 exact rfl);refine Q144 ?_)
         (apply ends_ret;(exact Res.two (.tmp rfl rfl) (.tmp rfl rfl));(refine Q98 ?_;refine LeL.cons ?_ ?_;refine Le.litI ?_;(first|rfl|simp);exact LeL.nil))
        |true=>
         rw[d5] at hwd
         have hsm:stepC ⟨v,cl,syms⟩ s l[i]=some ⟨s.vars+1,s.cl++defs l[i].lits[0] (l[i].lits.drop 1),s.ref⟩:=by rw[hst,defineC,if_pos ⟨d1,d2,by rw[h0];exact d3,by rw[h0];exact d4,d5⟩,h0]
         have hrn:=runC_some hlt hsm
         rw[hrn] at hrun
         have hok2:=hok.step2 hL hsm
         obtain⟨sv,scl,rf⟩:=s
         simp only at*
         cases rf with
         |true=>
          have hdl':(l[i].lits.drop (1:Int).toNat).length=l[i].lits.length - 1:=hdl
          have d5':withinM sv (l[i].lits.drop (1:Int).toNat)=true:=d5
          (refine Q250 ?_;(focus ((with_reducible apply AOps.index_map);(iterate 7 exact rfl);rotate_left;omega));refine Q3 ?_;(with_reducible apply AOps.inline (hf:=Try.func49));(with_reducible assumption);(iterate 10 exact rfl);intro g_ hro_ hwt_;refine Q147 ?_;(with_reducible apply AW.regionQ);exact rfl;exact rfl;kernel_rfl;(with_reducible assumption);refine Q167 ?_;(focus ((with_reducible apply AOps.index_mapI);(iterate 7 exact rfl);omega;rotate_left;(first|omega|exact Nat.zero_lt_one|(simp;done))));refine Q146 ?_;refine Q154 ?_;refine Q45 ?_;(focus ((with_reducible apply AOps.index_mapI);(iterate 7 exact rfl);omega;rotate_left;(first|omega|exact Nat.zero_lt_one|(simp;done))));refine zy ?_;refine zr ?_;refine Q62 ?_;refine zm ?_;refine Q191 ?_;(focus ((with_reducible apply AOps.index_mapI);(iterate 7 exact rfl);omega;rotate_left;(first|omega|exact Nat.zero_lt_one|(simp;done))));refine Q292 ?_;refine Q337 ?_)
          (refine nz ?_;apply AW.loopR [66,65,64,63,61,60,59,58,57,56,55,54,15,14,13,12,9,8,4,3,0,1073,1072,1071,1070,1069,1068,1015,1014,1012,1013,1056,1055,1054,1008,1009,1002] [6,5,4,2] (fun j:Nat=>([(67,litI j),(5,.own 7 3 1 ((l[i].lits[0]::((l[i].lits.drop (1:Int).toNat).take j).map fun x=> -x).map encI))]:List (Nat×AV))) (fun j:Nat=>([(3,some (.box [litI (sv+1),.own 2 28 1 ((scl++((l[i].lits.drop (1:Int).toNat).take j).map fun x=>[-l[i].lits[0],x]).map fun c=>[ints c]),litI v,.pv (intss syms),.own 4 4 1 ((EnM.valid ⟨v,cl,syms⟩).map encB),litB true])),(7,some .row)]:List (Nat×Option Ob))) (fun j:Nat=>j≤(l[i].lits.drop (1:Int).toNat).length) (fun j:Nat=>(l[i].lits.drop (1:Int).toNat).length - j) (0);(conv=>lhs;simp only[Nf.lpR,Nf.all,Nat.reduceBEq,reduceAdd,reduceSub]);(all_goals skip))
          ·exact Nat.zero_le _
          ·exact Q6
          rintro j hj
          have hjl:((l[i].lits.drop (1:Int).toNat).take j).length≤900:=by rw[List.length_take];omega
          by_cases hlj:j<(l[i].lits.drop (1:Int).toNat).length
          ·have hxb:=withinM_spec d5' _ (List.getElem_mem hlj)
           have hts:=take_succ_get hlj
           have hq1:(l[i].lits[0]::((l[i].lits.drop (1:Int).toNat).take (j+1)).map fun x=> -x).map encI=(l[i].lits[0]::((l[i].lits.drop (1:Int).toNat).take j).map fun x=> -x).map encI++ [encI (-(l[i].lits.drop (1:Int).toNat)[j])]:=by rw[hts];simp
           have hq2:((scl++((l[i].lits.drop (1:Int).toNat).take (j+1)).map fun x=>[-l[i].lits[0],x]).map fun c=>[ints c])=((scl++((l[i].lits.drop (1:Int).toNat).take j).map fun x=>[-l[i].lits[0],x]).map fun c=>[ints c])++ [[ints [-l[i].lits[0],(l[i].lits.drop (1:Int).toNat)[j]]]]:=by rw[hts];simp
           (refine Q22 ?_;(focus ((with_reducible apply AOps.index_map);(iterate 7 exact rfl);rotate_left;omega));refine zr ?_;refine Q145 ?_;refine AOps.move_ptr rfl rfl rfl ?_;refine Q117 ?_;(focus ((with_reducible apply AOps.index_mapI);(iterate 7 exact rfl);omega;rotate_left;(first|omega|exact Nat.zero_lt_one|(simp;done))));refine zr ?_;refine AOps.neg rfl rfl rfl (by omega) ?_;refine zm ?_;refine Q151 ?_;refine nz ?_;(with_reducible apply AOps.inline (hf:=Try.func65));(with_reducible assumption);(iterate 10 exact rfl);intro g_ hro_ hwt_;refine Q193 ?_;(with_reducible apply AOps.appendS);exact rfl;(first|exact .pv rfl|exact .own rfl|exact .nil rfl);(iterate 9 exact rfl);(first|omega|(simp only[List.length_map,List.length_append,List.length_cons,List.length_nil,List.length_drop,List.length_take,List.length_set,List.length_range,chunk_len];omega));refine Q35 ?_;refine Q130 ?_;refine Q107 ?_;refine AOps.nilCheck_ptr rfl rfl rfl ?_;refine Q245 ?_;(with_reducible apply AOps.appendS);exact rfl;(first|exact .pv rfl|exact .own rfl|exact .nil rfl);(iterate 9 exact rfl);(first|omega|(simp only[List.length_map,List.length_append,List.length_cons,List.length_nil,List.length_drop,List.length_take,List.length_set,List.length_range,chunk_len];omega));refine nz ?_;refine Q149 ?_;refine nz ?_;refine Q79 ?_)
           exact Q8
          ·rw[take_all (l:=l[i].lits.drop (1:Int).toNat) (by omega)]
           have hll:(l[i].lits[0]::(l[i].lits.drop (1:Int).toNat).map fun x=> -x).length=(l[i].lits.drop (1:Int).toNat).length+1:=by simp
           (refine Q208 ?_;refine Q52 ?_;refine AOps.move_ptr rfl rfl rfl ?_;refine AOps.move_own rfl rfl rfl ?_;(with_reducible apply AOps.inline (hf:=Try.func65));(with_reducible assumption);(iterate 10 exact rfl);intro g_ hro_ hwt_;refine Q193 ?_;(with_reducible apply AOps.appendS);exact rfl;(first|exact .pv rfl|exact .own rfl|exact .nil rfl);(iterate 9 exact rfl);(first|omega|(simp only[List.length_map,List.length_append,List.length_cons,List.length_nil,List.length_drop,List.length_take,List.length_set,List.length_range,chunk_len];omega));refine Q35 ?_;refine Q130 ?_;refine Q107 ?_;refine Q58 ?_)
           exact Q51
         |false=>
          have hdl':(l[i].lits.drop (1:Int).toNat).length=l[i].lits.length - 1:=hdl
          have d5':withinM sv (l[i].lits.drop (1:Int).toNat)=true:=d5
          (refine Q250 ?_;(focus ((with_reducible apply AOps.index_map);(iterate 7 exact rfl);rotate_left;omega));refine Q3 ?_;(with_reducible apply AOps.inline (hf:=Try.func49));(with_reducible assumption);(iterate 10 exact rfl);intro g_ hro_ hwt_;refine Q147 ?_;(with_reducible apply AW.regionQ);exact rfl;exact rfl;kernel_rfl;(with_reducible assumption);refine Q167 ?_;(focus ((with_reducible apply AOps.index_mapI);(iterate 7 exact rfl);omega;rotate_left;(first|omega|exact Nat.zero_lt_one|(simp;done))));refine Q146 ?_;refine Q154 ?_;refine Q45 ?_;(focus ((with_reducible apply AOps.index_mapI);(iterate 7 exact rfl);omega;rotate_left;(first|omega|exact Nat.zero_lt_one|(simp;done))));refine zy ?_;refine zr ?_;refine Q62 ?_;refine zm ?_;refine Q191 ?_;(focus ((with_reducible apply AOps.index_mapI);(iterate 7 exact rfl);omega;rotate_left;(first|omega|exact Nat.zero_lt_one|(simp;done))));refine Q292 ?_;refine Q337 ?_)
          (refine nz ?_;apply AW.loopR [66,65,64,63,61,60,59,58,57,56,55,54,15,14,13,12,9,8,4,3,0,1073,1072,1071,1070,1069,1068,1015,1014,1012,1013,1056,1055,1054,1008,1009,1002] [6,5,4,2] (fun j:Nat=>([(67,litI j),(5,.own 7 3 1 ((l[i].lits[0]::((l[i].lits.drop (1:Int).toNat).take j).map fun x=> -x).map encI))]:List (Nat×AV))) (fun j:Nat=>([(3,some (.box [litI (sv+1),.own 2 28 1 ((scl++((l[i].lits.drop (1:Int).toNat).take j).map fun x=>[-l[i].lits[0],x]).map fun c=>[ints c]),litI v,.pv (intss syms),.own 4 4 1 ((EnM.valid ⟨v,cl,syms⟩).map encB),litB false])),(7,some .row)]:List (Nat×Option Ob))) (fun j:Nat=>j≤(l[i].lits.drop (1:Int).toNat).length) (fun j:Nat=>(l[i].lits.drop (1:Int).toNat).length - j) (0);(conv=>lhs;simp only[Nf.lpR,Nf.all,Nat.reduceBEq,reduceAdd,reduceSub]);(all_goals skip))
          ·exact Nat.zero_le _
          ·exact Q6
          rintro j hj
          have hjl:((l[i].lits.drop (1:Int).toNat).take j).length≤900:=by rw[List.length_take];omega
          by_cases hlj:j<(l[i].lits.drop (1:Int).toNat).length
          ·have hxb:=withinM_spec d5' _ (List.getElem_mem hlj)
           have hts:=take_succ_get hlj
           have hq1:(l[i].lits[0]::((l[i].lits.drop (1:Int).toNat).take (j+1)).map fun x=> -x).map encI=(l[i].lits[0]::((l[i].lits.drop (1:Int).toNat).take j).map fun x=> -x).map encI++ [encI (-(l[i].lits.drop (1:Int).toNat)[j])]:=by rw[hts];simp
           have hq2:((scl++((l[i].lits.drop (1:Int).toNat).take (j+1)).map fun x=>[-l[i].lits[0],x]).map fun c=>[ints c])=((scl++((l[i].lits.drop (1:Int).toNat).take j).map fun x=>[-l[i].lits[0],x]).map fun c=>[ints c])++ [[ints [-l[i].lits[0],(l[i].lits.drop (1:Int).toNat)[j]]]]:=by rw[hts];simp
           (refine Q22 ?_;(focus ((with_reducible apply AOps.index_map);(iterate 7 exact rfl);rotate_left;omega));refine zr ?_;refine Q145 ?_;refine AOps.move_ptr rfl rfl rfl ?_;refine Q117 ?_;(focus ((with_reducible apply AOps.index_mapI);(iterate 7 exact rfl);omega;rotate_left;(first|omega|exact Nat.zero_lt_one|(simp;done))));refine zr ?_;refine AOps.neg rfl rfl rfl (by omega) ?_;refine zm ?_;refine Q151 ?_;refine nz ?_;(with_reducible apply AOps.inline (hf:=Try.func65));(with_reducible assumption);(iterate 10 exact rfl);intro g_ hro_ hwt_;refine Q193 ?_;(with_reducible apply AOps.appendS);exact rfl;(first|exact .pv rfl|exact .own rfl|exact .nil rfl);(iterate 9 exact rfl);(first|omega|(simp only[List.length_map,List.length_append,List.length_cons,List.length_nil,List.length_drop,List.length_take,List.length_set,List.length_range,chunk_len];omega));refine Q35 ?_;refine Q130 ?_;refine Q91 ?_;refine AOps.len rfl rfl rfl rfl ?_;refine Q204 ?_;refine AOps.nilCheck_ptr rfl rfl rfl ?_;refine Q245 ?_;(with_reducible apply AOps.appendS);exact rfl;(first|exact .pv rfl|exact .own rfl|exact .nil rfl);(iterate 9 exact rfl);(first|omega|(simp only[List.length_map,List.length_append,List.length_cons,List.length_nil,List.length_drop,List.length_take,List.length_set,List.length_range,chunk_len];omega));refine nz ?_;refine Q149 ?_;refine nz ?_;refine Q79 ?_)
           exact Q8
          ·rw[take_all (l:=l[i].lits.drop (1:Int).toNat) (by omega)]
           have hll:(l[i].lits[0]::(l[i].lits.drop (1:Int).toNat).map fun x=> -x).length=(l[i].lits.drop (1:Int).toNat).length+1:=by simp
           (refine Q208 ?_;refine Q52 ?_;refine AOps.move_ptr rfl rfl rfl ?_;refine AOps.move_own rfl rfl rfl ?_;(with_reducible apply AOps.inline (hf:=Try.func65));(with_reducible assumption);(iterate 10 exact rfl);intro g_ hro_ hwt_;refine Q193 ?_;(with_reducible apply AOps.appendS);exact rfl;(first|exact .pv rfl|exact .own rfl|exact .nil rfl);(iterate 9 exact rfl);(first|omega|(simp only[List.length_map,List.length_append,List.length_cons,List.length_nil,List.length_drop,List.length_take,List.length_set,List.length_range,chunk_len];omega));refine Q35 ?_;refine Q130 ?_;refine Q91 ?_;refine zn ?_;refine Q204 ?_;refine Q58 ?_)
           exact Q51
       ·have d4':¬l[i].lits[(0:Int).toNat]'(by simp;omega)≤20000:=d4
        have hrn:=runC_none hlt (by rw[hst,defineC,if_neg (by rintro⟨_,_,_,h,_⟩;rw[h0] at h;exact d4 h)])
        rw[hrn] at hrun
        rw[hrun]
        (refine Q250 ?_;(focus ((with_reducible apply AOps.index_map);(iterate 7 exact rfl);rotate_left;omega));refine Q3 ?_;(with_reducible apply AOps.inline (hf:=Try.func49));(with_reducible assumption);(iterate 10 exact rfl);intro g_ hro_ hwt_;refine Q86 ?_;show AOps .held _ _ _ [_,_,_,_,_,_,_,_,_,_,_,_,_,_,_,_,_,_,_,_,_,_,_,_,_,_,_,_,_,_,_,_,_,_,_,_,_,_] _ _;refine Q167 ?_;(focus ((with_reducible apply AOps.index_mapI);(iterate 7 exact rfl);omega;rotate_left;(first|omega|exact Nat.zero_lt_one|(simp;done))));refine Q146 ?_;refine Q154 ?_;refine Q45 ?_;(focus ((with_reducible apply AOps.index_mapI);(iterate 7 exact rfl);omega;rotate_left;(first|omega|exact Nat.zero_lt_one|(simp;done))));refine zy ?_;refine zr ?_;refine Q62 ?_;refine zm ?_;(iterate 8 refine AOps.guardFn rfl rfl rfl rfl rfl rfl (by first|omega|decide) ?_);refine Q4 ?_;intro k_ hk_;refine Q315 ?_;intro g_ hgro_ hw_;refine AOps.guardFn rfl rfl rfl rfl rfl rfl (by first|omega|decide) ?_;refine Q4 ?_;refine Q234 ?_;intro g_ hgro_;show AOps .held _ _ _ [_,_] _ _;refine AOps.guardFn rfl rfl rfl rfl rfl rfl (by first|omega|decide) ?_;refine zT ?_;refine Q4 ?_;intro k_ hk_;refine nz ?_;refine Q74 ?_;(with_reducible apply AW.give6 14 9 12 3);(iterate 3 exact rfl);refine Q144 ?_)
        (apply ends_ret;(exact Res.two (.tmp rfl rfl) (.tmp rfl rfl));(refine Q98 ?_;refine LeL.cons ?_ ?_;refine Le.litI ?_;(first|rfl|simp);exact LeL.nil))
      ·have d3':¬l[i].lits[(0:Int).toNat]'(by simp;omega)=s.vars+1:=d3
       have hrn:=runC_none hlt (by rw[hst,defineC,if_neg (by rintro⟨_,_,h,_⟩;rw[h0] at h;exact d3 h)])
       rw[hrn] at hrun
       rw[hrun]
       (refine Q250 ?_;(focus ((with_reducible apply AOps.index_map);(iterate 7 exact rfl);rotate_left;omega));refine Q3 ?_;(with_reducible apply AOps.inline (hf:=Try.func49));(with_reducible assumption);(iterate 10 exact rfl);intro g_ hro_ hwt_;refine Q86 ?_;show AOps .held _ _ _ [_,_,_,_,_,_,_,_,_,_,_,_,_,_,_,_,_,_,_,_,_,_,_,_,_,_,_,_,_,_,_,_,_,_,_,_,_,_] _ _;refine Q167 ?_;(focus ((with_reducible apply AOps.index_mapI);(iterate 7 exact rfl);omega;rotate_left;(first|omega|exact Nat.zero_lt_one|(simp;done))));refine Q146 ?_;refine zm ?_;(iterate 5 refine AOps.guardFn rfl rfl rfl rfl rfl rfl (by with_reducible assumption) ?_);refine zT ?_;refine Q323 ?_;refine Q4 ?_;intro k_ hk_;refine Q315 ?_;intro g_ hgro_ hw_;refine Q160 ?_;refine Q234 ?_;intro g_ hgro_;show AOps .held _ _ _ [_,_] _ _;refine Q141 ?_;refine Q4 ?_;intro k_ hk_;refine nz ?_;refine Q74 ?_;(with_reducible apply AW.give6 14 9 12 3);(iterate 3 exact rfl);refine Q144 ?_)
       (apply ends_ret;(exact Res.two (.tmp rfl rfl) (.tmp rfl rfl));(refine Q98 ?_;refine LeL.cons ?_ ?_;refine Le.litI ?_;(first|rfl|simp);exact LeL.nil))
     ·have d2':(l[i].lits.length:Int)<2:=by omega
      have hrn:=runC_none hlt (by rw[hst,defineC,if_neg (by rintro⟨_,h,_⟩;exact d2 h)])
      rw[hrn] at hrun
      rw[hrun]
      (refine Q250 ?_;(focus ((with_reducible apply AOps.index_map);(iterate 7 exact rfl);rotate_left;omega));refine Q3 ?_;(with_reducible apply AOps.inline (hf:=Try.func49));(with_reducible assumption);(iterate 10 exact rfl);intro g_ hro_ hwt_;refine Q86 ?_;show AOps .held _ _ _ [_,_,_,_,_,_,_,_,_,_,_,_,_,_,_,_,_,_,_,_,_,_,_,_,_,_,_,_,_,_,_,_,_,_,_,_,_,_] _ _;refine Q70 ?_;refine zy ?_;refine Q45 ?_;refine zn ?_;refine zy ?_;refine zs ?_;refine zF ?_;refine zm ?_;(iterate 11 refine AOps.guardFn rfl rfl rfl rfl rfl rfl (by with_reducible assumption) ?_);refine zT ?_;refine zm ?_;refine Q96 ?_;refine Q323 ?_;refine Q4 ?_;intro k_ hk_;refine Q315 ?_;intro g_ hgro_ hw_;refine Q160 ?_;refine Q234 ?_;intro g_ hgro_;show AOps .held _ _ _ [_,_] _ _;refine Q141 ?_;refine Q4 ?_;intro k_ hk_;refine nz ?_;refine Q74 ?_;(with_reducible apply AW.give6 14 9 12 3);(iterate 3 exact rfl);refine Q144 ?_)
      (apply ends_ret;(exact Res.two (.tmp rfl rfl) (.tmp rfl rfl));(refine Q98 ?_;refine LeL.cons ?_ ?_;refine Le.litI ?_;(first|rfl|simp);exact LeL.nil))
    ·have hrn:=runC_none hlt (by rw[hst,defineC,if_neg (fun h=>d1 h.1)])
     rw[hrn] at hrun
     rw[hrun]
     (refine Q250 ?_;(focus ((with_reducible apply AOps.index_map);(iterate 7 exact rfl);rotate_left;omega));refine Q3 ?_;(with_reducible apply AOps.inline (hf:=Try.func49));(with_reducible assumption);(iterate 10 exact rfl);intro g_ hro_ hwt_;refine Q86 ?_;show AOps .held _ _ _ [_,_,_,_,_,_,_,_,_,_,_,_,_,_,_,_,_,_,_,_,_,_,_,_,_,_,_,_,_,_,_,_,_,_,_,_,_,_] _ _;refine Q70 ?_;refine Q199 ?_;refine zm ?_;(iterate 11 refine AOps.guard_lf rfl rfl rfl rfl rfl rfl rfl ?_);refine Q298 ?_;refine Q96 ?_;refine Q323 ?_;refine Q4 ?_;intro k_ hk_;refine Q315 ?_;intro g_ hgro_ hw_;refine Q160 ?_;refine Q234 ?_;intro g_ hgro_;show AOps .held _ _ _ [_,_] _ _;refine Q141 ?_;refine Q4 ?_;intro k_ hk_;refine nz ?_;refine Q74 ?_;(with_reducible apply AW.give6 14 9 12 3);(iterate 3 exact rfl);refine Q144 ?_)
     (apply ends_ret;(exact Res.two (.tmp rfl rfl) (.tmp rfl rfl));(refine Q98 ?_;refine LeL.cons ?_ ?_;refine Le.litI ?_;(first|rfl|simp);exact LeL.nil))
   by_cases k4:l[i].kind=4
   ·have hlk:lookI (fnL ruleL) l[i].kind=some (fnV (.func 50)):=by rw[rule_at,if_neg k1,if_neg k2,if_neg k3,if_pos k4]
    have hst:stepC ⟨v,cl,syms⟩ s l[i]=symmC ⟨v,cl,syms⟩ s l[i]:=stepC_4 k4
    cases c2:withinM s.vars l[i].lits with
    |false=>
     rw[c2] at hw
     have hrn:=runC_none hlt (by rw[hst,symmC,if_neg (by rw[c2];simp)])
     rw[hrn] at hrun
     rw[hrun]
     (refine Q250 ?_;(focus ((with_reducible apply AOps.index_map);(iterate 7 exact rfl);rotate_left;omega));refine Q3 ?_;(with_reducible apply AOps.inline (hf:=Try.func50));(with_reducible assumption);(iterate 10 exact rfl);intro g_ hro_ hwt_;refine Q170 ?_;(with_reducible apply AW.regionQ);exact rfl;exact rfl;kernel_rfl;(with_reducible assumption);refine zb ?_;refine Q152 ?_;refine Q80 ?_;refine Q117 ?_;refine zA (hw) ?_;refine Q328 ?_;refine Q107 ?_;refine Q323 ?_;refine Q298 ?_;refine Q258 ?_;refine Q175 ?_;(with_reducible apply AW.give6 14 9 12 3);(iterate 3 exact rfl);refine Q144 ?_)
     (apply ends_ret;(exact Res.two (.tmp rfl rfl) (.tmp rfl rfl));(refine Q98 ?_;refine LeL.cons ?_ ?_;refine Le.litI ?_;(first|rfl|simp);exact LeL.nil))
    |true=>
     rw[c2] at hw
     by_cases m1:0≤l[i].sym
     ·by_cases m2:l[i].sym<syms.length
      ·have mt:l[i].sym.toNat<syms.length:=by omega
       have hgd:syms.getD l[i].sym.toNat []=syms[l[i].sym.toNat]:=by rw[List.getD_eq_getElem?_getD,List.getElem?_eq_getElem mt];rfl
       have hvg:(EnM.valid ⟨v,cl,syms⟩)[l[i].sym.toNat]'(by rw[hvl];exact mt)=symOk v cl syms[l[i].sym.toNat]:=valid_at ⟨v,cl,syms⟩ mt
       cases m3:symOk v cl syms[l[i].sym.toNat] with
       |false=>
        rw[m3] at hvg
        have hrn:=runC_none hlt (e:=⟨v,cl,syms⟩) (s:=s) (by rw[hst,symmC,if_neg (by rw[hgd,m3];simp)])
        rw[hrn] at hrun
        rw[hrun]
        have hvn:(!(EnM.valid ⟨v,cl,syms⟩)[l[i].sym.toNat]'(by rw[hvl];exact mt))=true:=by rw[hvg];rfl
        (refine Q250 ?_;(focus ((with_reducible apply AOps.index_map);(iterate 7 exact rfl);rotate_left;omega));refine Q3 ?_;(with_reducible apply AOps.inline (hf:=Try.func50));(with_reducible assumption);(iterate 10 exact rfl);intro g_ hro_ hwt_;refine Q170 ?_;(with_reducible apply AW.regionQ);exact rfl;exact rfl;kernel_rfl;(with_reducible assumption);refine Q239 ?_;(focus ((with_reducible apply AOps.load_o1_mapI);(iterate 4 exact rfl);exact(fun h_=>by cases h_);rotate_left;(first|omega|exact Nat.zero_lt_one|(simp;done))));refine Q110 ?_;refine zd ?_;refine AW.condYb rfl rfl (by assumption) ?_;refine Q52 ?_;refine Q153 ?_;refine Q64 ?_;refine Q32 ?_;refine Q43 ?_;(with_reducible apply AW.give6 14 9 12 3);(iterate 3 exact rfl);refine Q144 ?_)
        (apply ends_ret;(exact Res.two (.tmp rfl rfl) (.tmp rfl rfl));(refine Q98 ?_;refine LeL.cons ?_ ?_;refine Le.litI ?_;(first|rfl|simp);exact LeL.nil))
       |true=>
        rw[m3] at hvg
        have hvn:(!(EnM.valid ⟨v,cl,syms⟩)[l[i].sym.toNat]'(by rw[hvl];exact mt))=false:=by rw[hvg];rfl
        have hnw:=normal_fn l[i].lits (by omega)
        (refine Q250 ?_;(focus ((with_reducible apply AOps.index_map);(iterate 7 exact rfl);rotate_left;omega));refine Q3 ?_;(with_reducible apply AOps.inline (hf:=Try.func50));(with_reducible assumption);(iterate 10 exact rfl);intro g_ hro_ hwt_;refine Q170 ?_;(with_reducible apply AW.regionQ);exact rfl;exact rfl;kernel_rfl;(with_reducible assumption);refine Q239 ?_;(focus ((with_reducible apply AOps.load_o1_mapI);(iterate 4 exact rfl);exact(fun h_=>by cases h_);rotate_left;(first|omega|exact Nat.zero_lt_one|(simp;done))));refine Q110 ?_;refine zd ?_;refine AW.condNb rfl rfl (by assumption) ?_;refine Q37 ?_;refine zo ?_;refine AW.regionM [0,1,2,3,4,5,6,7,8,9] [13] rfl (by assumption) (by kernel_rfl) (by kernel_rfl) rfl ?_;show AOps .held _ _ _ [_,_,_,_,_,_,_,_,_,_] _ _;refine zb ?_;refine AOps.nilCheck_ptr rfl rfl rfl ?_;refine AOps.fieldAddrN 56 2 3 rfl rfl rfl rfl ?_;refine zb ?_;refine AOps.fieldAddrN 30 2 2 rfl rfl rfl rfl ?_;refine zb ?_;(focus ((with_reducible apply AOps.index_mapI);(iterate 7 exact rfl);omega;rotate_left;(first|omega|exact Nat.zero_lt_one|(simp;done))));refine zr ?_;refine Q117 ?_;refine Q4 ?_;intro k_ hk_;refine nz ?_;apply AR.cut [9,8,7,6,5,4,3,2,1,0,10,11,12];intro hJ_0;apply AR.cut [9,8,7,6,5,4,3,2,1,0,10,12];intro hJ_1;apply AR.cut [9,8,7,6,5,4,3,2,1,0,11,12];intro hJ_2;apply AR.cut [9,8,7,6,5,4,3,2,1,0,10,11];intro hJ_3;(refine AR.step3M (i:=10) (j:=11) (m:=12) rfl (by kernel_rfl) rfl rfl rfl ?_ ?_ ?_<;>intro g_ hgro_ hw_);refine zP (hnw) ?_;refine Q4 ?_;(refine AR.step2M (i:=11) (j:=12) rfl (by kernel_rfl) rfl rfl ?_ ?_<;>intro g_ hgro_ hw_);refine Q240 ?_;refine Q26 ?_;exact AR.perm (by kernel_rfl) hJ_3;refine Q240 ?_;exact Q244;refine Q143 ?_;refine Q4 ?_;(refine AR.step2M (i:=10) (j:=12) rfl (by kernel_rfl) rfl rfl ?_ ?_<;>intro g_ hgro_ hw_);refine zP (hnw) ?_;refine Q4 ?_;(try refine nz ?_);refine AR.meet hJ_3 (by kernel_rfl) (fun g_=>weak rfl ?_ ?_ rfl);(iterate 79 refine⟨.eq rfl rfl,?_⟩);exact trivial;exact Q59;refine Q240 ?_;refine Q26 ?_;exact AR.perm (by kernel_rfl) hJ_2;refine Q143 ?_;refine Q4 ?_;(refine AR.step2M (i:=10) (j:=11) rfl (by kernel_rfl) rfl rfl ?_ ?_<;>intro g_ hgro_ hw_);refine zP (hnw) ?_;refine Q4 ?_;(try refine nz ?_);refine AR.meet hJ_1 (by kernel_rfl) (fun g_=>weak rfl ?_ ?_ rfl);(iterate 79 refine⟨.eq rfl rfl,?_⟩);exact trivial;exact Q59;refine Q240 ?_;refine AR.sw 8 9 (by assumption) (by kernel_rfl) (by kernel_rfl) ?_;refine Q120 ?_;refine AR.meet hJ_2 (by kernel_rfl) (fun g_=>weak rfl ?_ ?_ rfl);(iterate 79 refine⟨.eq rfl rfl,?_⟩);exact trivial;refine⟨.box _ rfl ?_,?_⟩;exact Q33;exact Q59;refine AR.step1M (i:=12) rfl (by kernel_rfl) rfl ?_;intro g_ hgro_ hw_;refine Q240 ?_;exact Q162;refine AR.step1M (i:=10) rfl (by kernel_rfl) rfl ?_;intro g_ hgro_ hw_;refine zP (hnw) ?_;refine Q4 ?_;(try refine nz ?_);exact Q303;refine AR.step1M (i:=11) rfl (by kernel_rfl) rfl ?_;intro g_ hgro_ hw_;refine Q240 ?_;refine AR.sw 8 9 (by assumption) (by kernel_rfl) (by kernel_rfl) ?_;refine Q120 ?_;exact Q303;refine Q108 ?_;intro g_ hgro_ hwt2_;refine Q324 ?_;refine Q114 ?_;intro g_ hgro_ hwt2_;refine Q20 ?_;refine Q119 ?_;refine zo ?_;refine zq ?_;refine zb ?_;refine Q152 ?_;refine Q60 ?_;refine AOps.makeFunc_3 rfl rfl rfl rfl rfl rfl rfl ?_;(with_reducible apply AOps.inline (hf:=Try.func28));(with_reducible assumption);(iterate 10 exact rfl);intro g_ hro_ hwt_;refine Q247 ?_;refine AOps.move_own rfl rfl rfl ?_;refine AOps.move_clo rfl rfl rfl ?_;(with_reducible apply AOps.inline (hf:=Try.func58));(with_reducible assumption);(iterate 10 exact rfl);intro g_ hro_ hwt_;refine Q131 ?_;refine Q61 ?_;refine Q207 ?_;refine AOps.len_own_map rfl rfl rfl rfl ?_;refine Q337 ?_)
        obtain⟨y1,y2⟩:=symOk_facts m3
        have hsmy:=sm_within hf.hv y2
        have hsyl:=hsy.2 _ (List.getElem_mem mt)
        (refine nz ?_;apply AW.loopR [7,0,1,1006,1005,1004,1000,1001,2058,2057,2056,2055,2054,2053,2006,2005,2015,2014,2013,2012,2009,2008,2004,2003,2002,3073,3072,3071,3070,3069,3068,3015,3014,3012,3013,3056,3055,3054,3008,3009,3002] [9,8,7,6,5,3,4,2] (fun j:Nat=>([(8,litI j)]:List (Nat×AV))) (fun j:Nat=>([]:List (Nat×Option Ob))) (fun j:Nat=>j≤s.cl.length∧(s.cl.take j).any (mapC v syms[l[i].sym.toNat] l[i].lits)=false) (fun j:Nat=>s.cl.length - j) (0);(conv=>lhs;simp only[Nf.lpR,Nf.all,Nat.reduceBEq,reduceAdd,reduceSub]);(all_goals skip))
        ·exact⟨Nat.zero_le _,rfl⟩
        ·exact Q7
        rintro j ⟨hj,han⟩
        by_cases hlj:j<s.cl.length
        ·obtain⟨q1,q2⟩:=hok.hcl _ (List.getElem_mem hlj)
         have hwv:=cWithin_fn v s.cl[j] (by omega)
         have hns:=any_snoc (p:=mapC v syms[l[i].sym.toNat] l[i].lits) hlj
         rw[han,Bool.false_or] at hns
         cases e1:withinM v s.cl[j] with
         |false=>
          rw[e1] at hwv
          have hey:mapC v syms[l[i].sym.toNat] l[i].lits s.cl[j]=false:=by unfold mapC;rw[e1];rfl
          rw[hey] at hns
          (refine Q302 ?_;(focus ((with_reducible apply AOps.load_o1_mapI);(iterate 4 exact rfl);exact(fun h_=>by cases h_);rotate_left;(first|omega|exact Nat.zero_lt_one|(simp;done))));(with_reducible apply AOps.inline (hf:=Try.func68));(with_reducible assumption);(iterate 10 exact rfl);intro g_ hro_ hwt_;refine Q183 ?_;show AOps .held _ _ _ [_,_,_,_,_] _ _;refine Q171 ?_;intro k_ hk_;refine Q322 ?_;intro g_ hgro_ hw_;refine Q182 ?_;intro g_ hgro_;show AOps .held _ _ _ [_,_,_,_] _ _;refine zm ?_;(iterate 3 refine AOps.guard_lf rfl rfl rfl rfl rfl rfl rfl ?_);refine Q4 ?_;intro k_ hk_;refine Q325 ?_;intro g_ hgro_ hw_;refine Q160 ?_;refine AR.step1M (i:=10) rfl (by kernel_rfl) rfl ?_;intro g_ hgro_ hw_;refine Q160 ?_;refine AR.step1M (i:=12) rfl (by kernel_rfl) rfl ?_;intro g_ hgro_ hw_;refine Q160 ?_;refine Q233 ?_;intro g_ hgro_;show AOps .held _ _ _ [_,_] _ _;refine AOps.pick_lf rfl rfl rfl rfl rfl rfl ?_;refine za ?_;refine Q4 ?_;intro k_ hk_;refine nz ?_;refine Q139 ?_;refine Q67 ?_;refine Q136 ?_;refine Q79 ?_)
          exact Q18
         |true=>
          rw[e1] at hwv
          have him:=image_fn syms[l[i].sym.toNat] s.cl[j] hsmy (by omega) (by omega) (by rw[y1];exact e1)
          have hil:=imgL_len syms[l[i].sym.toNat] s.cl[j]
          have hni:=normal_fn (imgL syms[l[i].sym.toNat] s.cl[j]) (by omega)
          have heq:=sEqual_fn (canon (imgL syms[l[i].sym.toNat] s.cl[j])) (canon l[i].lits)
          by_cases he:canon (imgL syms[l[i].sym.toNat] s.cl[j])=canon l[i].lits
          ·rw[decide_eq_true he] at heq
           have hey:mapC v syms[l[i].sym.toNat] l[i].lits s.cl[j]=true:=by unfold mapC;rw[e1,decide_eq_true he];rfl
           have hsm:stepC ⟨v,cl,syms⟩ s l[i]=some (addC s l[i].lits):=by rw[hst,symmC,if_pos ⟨c2,⟨m1,m2⟩,by rw[hgd];exact m3,by rw[hgd];exact any_yes hlj hey⟩]
           have hrn:=runC_some hlt hsm
           rw[hrn] at hrun
           have hok2:=hok.step2 hL hsm
           obtain⟨sv,scl,rf⟩:=s
           simp only[addC] at*
           have hlj':j<scl.length:=hlj
           cases rf with
           |true=>
            (refine Q302 ?_;(focus ((with_reducible apply AOps.load_o1_mapI);(iterate 4 exact rfl);exact(fun h_=>by cases h_);rotate_left;(first|omega|exact Nat.zero_lt_one|(simp;done))));(with_reducible apply AOps.inline (hf:=Try.func68));(with_reducible assumption);(iterate 10 exact rfl);intro g_ hro_ hwt_;refine Q183 ?_;show AOps .held _ _ _ [_,_,_,_,_] _ _;refine Q171 ?_;intro k_ hk_;refine Q322 ?_;intro g_ hgro_ hw_;refine Q182 ?_;intro g_ hgro_;show AOps .held _ _ _ [_,_,_,_] _ _;refine zm ?_;refine zl ?_;refine zb ?_;refine Q91 ?_;refine zb ?_;refine Q4 ?_;intro k_ hk_;refine Q325 ?_;intro g_ hgro_ hw_;refine Q321 ?_;intro g_ hgro_ hw_;refine Q317 ?_;intro g_ hgro_ hw_;refine zl ?_;refine zA (heq) ?_;refine Q4 ?_;refine Q233 ?_;intro g_ hgro_;show AOps .held _ _ _ [_,_] _ _;refine AOps.pick_lt rfl rfl rfl rfl rfl rfl ?_;refine za ?_;refine Q4 ?_;intro k_ hk_;refine nz ?_;refine Q139 ?_;refine Q43 ?_;refine Q238 ?_;refine Q89 ?_;refine Q134 ?_;refine zb ?_;refine Q117 ?_;(with_reducible apply AOps.inline (hf:=Try.func65));(with_reducible assumption);(iterate 10 exact rfl);intro g_ hro_ hwt_;refine Q131 ?_;refine Q125 ?_;refine zm ?_;refine Q71 ?_;(with_reducible apply AOps.appendS);exact rfl;(first|exact .pv rfl|exact .own rfl|exact .nil rfl);(iterate 9 exact rfl);(first|omega|(simp only[List.length_map,List.length_append,List.length_cons,List.length_nil,List.length_drop,List.length_take,List.length_set,List.length_range,chunk_len];omega));refine Q35 ?_;refine Q130 ?_;refine Q107 ?_;refine Q58 ?_)
            exact Q13
           |false=>
            (refine Q302 ?_;(focus ((with_reducible apply AOps.load_o1_mapI);(iterate 4 exact rfl);exact(fun h_=>by cases h_);rotate_left;(first|omega|exact Nat.zero_lt_one|(simp;done))));(with_reducible apply AOps.inline (hf:=Try.func68));(with_reducible assumption);(iterate 10 exact rfl);intro g_ hro_ hwt_;refine Q183 ?_;show AOps .held _ _ _ [_,_,_,_,_] _ _;refine Q171 ?_;intro k_ hk_;refine Q322 ?_;intro g_ hgro_ hw_;refine Q182 ?_;intro g_ hgro_;show AOps .held _ _ _ [_,_,_,_] _ _;refine zm ?_;refine zl ?_;refine zb ?_;refine Q91 ?_;refine zb ?_;refine Q4 ?_;intro k_ hk_;refine Q325 ?_;intro g_ hgro_ hw_;refine Q321 ?_;intro g_ hgro_ hw_;refine Q317 ?_;intro g_ hgro_ hw_;refine zl ?_;refine zA (heq) ?_;refine Q4 ?_;refine Q233 ?_;intro g_ hgro_;show AOps .held _ _ _ [_,_] _ _;refine AOps.pick_lt rfl rfl rfl rfl rfl rfl ?_;refine za ?_;refine Q4 ?_;intro k_ hk_;refine nz ?_;refine Q139 ?_;refine Q43 ?_;refine Q238 ?_;refine Q89 ?_;refine Q134 ?_;refine zb ?_;refine Q117 ?_;(with_reducible apply AOps.inline (hf:=Try.func65));(with_reducible assumption);(iterate 10 exact rfl);intro g_ hro_ hwt_;refine Q131 ?_;refine Q125 ?_;refine zm ?_;refine Q71 ?_;(with_reducible apply AOps.appendS);exact rfl;(first|exact .pv rfl|exact .own rfl|exact .nil rfl);(iterate 9 exact rfl);(first|omega|(simp only[List.length_map,List.length_append,List.length_cons,List.length_nil,List.length_drop,List.length_take,List.length_set,List.length_range,chunk_len];omega));refine Q35 ?_;refine Q130 ?_;refine Q91 ?_;refine zn ?_;refine Q204 ?_;refine Q58 ?_)
            exact Q13
          ·rw[decide_eq_false he] at heq
           have hey:mapC v syms[l[i].sym.toNat] l[i].lits s.cl[j]=false:=by unfold mapC;rw[e1,decide_eq_false he];rfl
           rw[hey] at hns
           (refine Q302 ?_;(focus ((with_reducible apply AOps.load_o1_mapI);(iterate 4 exact rfl);exact(fun h_=>by cases h_);rotate_left;(first|omega|exact Nat.zero_lt_one|(simp;done))));(with_reducible apply AOps.inline (hf:=Try.func68));(with_reducible assumption);(iterate 10 exact rfl);intro g_ hro_ hwt_;refine Q183 ?_;show AOps .held _ _ _ [_,_,_,_,_] _ _;refine Q171 ?_;intro k_ hk_;refine Q322 ?_;intro g_ hgro_ hw_;refine Q182 ?_;intro g_ hgro_;show AOps .held _ _ _ [_,_,_,_] _ _;refine zm ?_;refine zl ?_;refine zb ?_;refine Q91 ?_;refine zb ?_;refine Q4 ?_;intro k_ hk_;refine Q325 ?_;intro g_ hgro_ hw_;refine Q321 ?_;intro g_ hgro_ hw_;refine Q317 ?_;intro g_ hgro_ hw_;refine zl ?_;refine zA (heq) ?_;refine Q4 ?_;refine Q233 ?_;intro g_ hgro_;show AOps .held _ _ _ [_,_] _ _;refine AOps.pick_lt rfl rfl rfl rfl rfl rfl ?_;refine za ?_;refine Q4 ?_;intro k_ hk_;refine nz ?_;refine Q139 ?_;refine Q67 ?_;refine Q136 ?_;refine Q79 ?_)
           exact Q18
        ·rw[take_all (l:=s.cl) (by omega)] at han
         have hrn:=runC_none hlt (by rw[hst,symmC,if_neg (by rw[hgd,han];simp)])
         rw[hrn] at hrun
         rw[hrun]
         (refine Q208 ?_;refine Q195 ?_;refine Q89 ?_;refine Q175 ?_;(with_reducible apply AW.give6 14 9 12 3);(iterate 3 exact rfl);refine Q144 ?_)
         (apply ends_ret;(exact Res.two (.tmp rfl rfl) (.tmp rfl rfl));(refine Q98 ?_;refine LeL.cons ?_ ?_;refine Le.litI ?_;(first|rfl|simp);exact LeL.nil))
      ·have hrn:=runC_none hlt (by rw[hst,symmC,if_neg (by rintro⟨_,⟨_,h⟩,_⟩;exact m2 h)])
       rw[hrn] at hrun
       rw[hrun]
       (refine Q250 ?_;(focus ((with_reducible apply AOps.index_map);(iterate 7 exact rfl);rotate_left;omega));refine Q3 ?_;(with_reducible apply AOps.inline (hf:=Try.func50));(with_reducible assumption);(iterate 10 exact rfl);intro g_ hro_ hwt_;refine Q170 ?_;(with_reducible apply AW.regionQ);exact rfl;exact rfl;kernel_rfl;(with_reducible assumption);refine Q65 ?_;(iterate 9 refine AOps.guardFn rfl rfl rfl rfl rfl rfl (by first|omega|decide) ?_);refine zT ?_;refine Q175 ?_;(with_reducible apply AW.give6 14 9 12 3);(iterate 3 exact rfl);refine Q144 ?_)
       (apply ends_ret;(exact Res.two (.tmp rfl rfl) (.tmp rfl rfl));(refine Q98 ?_;refine LeL.cons ?_ ?_;refine Le.litI ?_;(first|rfl|simp);exact LeL.nil))
     ·have hrn:=runC_none hlt (by rw[hst,symmC,if_neg (by rintro⟨_,⟨h,_⟩,_⟩;exact m1 h)])
      rw[hrn] at hrun
      rw[hrun]
      (refine Q250 ?_;(focus ((with_reducible apply AOps.index_map);(iterate 7 exact rfl);rotate_left;omega));refine Q3 ?_;(with_reducible apply AOps.inline (hf:=Try.func50));(with_reducible assumption);(iterate 10 exact rfl);intro g_ hro_ hwt_;refine Q170 ?_;(with_reducible apply AW.regionQ);exact rfl;exact rfl;kernel_rfl;(with_reducible assumption);refine zb ?_;refine Q152 ?_;refine Q80 ?_;refine Q117 ?_;refine zA (hw) ?_;refine Q328 ?_;refine zl ?_;refine AOps.fieldAddrN 30 2 2 rfl rfl rfl rfl ?_;refine zl ?_;refine zb ?_;refine zl ?_;refine zs ?_;refine AOps.pick_lf rfl rfl rfl rfl rfl rfl ?_;refine zm ?_;(iterate 8 refine AOps.guardFn rfl rfl rfl rfl rfl rfl (by first|omega|decide) ?_);refine zT ?_;refine zm ?_;refine Q258 ?_;refine Q175 ?_;(with_reducible apply AW.give6 14 9 12 3);(iterate 3 exact rfl);refine Q144 ?_)
      (apply ends_ret;(exact Res.two (.tmp rfl rfl) (.tmp rfl rfl));(refine Q98 ?_;refine LeL.cons ?_ ?_;refine Le.litI ?_;(first|rfl|simp);exact LeL.nil))
   have hlk:lookI (fnL ruleL) l[i].kind=none:=by rw[rule_at,if_neg k1,if_neg k2,if_neg k3,if_neg k4]
   have hrn:=runC_none hlt (stepC_5 (e:=⟨v,cl,syms⟩) (s:=s) k1 k2 k3 k4)
   rw[hrn] at hrun
   rw[hrun]
   (refine Q250 ?_;(focus ((with_reducible apply AOps.index_map);(iterate 7 exact rfl);rotate_left;omega));refine AOps.load_rn rfl rfl rfl rfl ?_;refine nz ?_;refine Q143 ?_;refine za ?_;refine zB ?_;refine nz ?_;refine zd ?_;refine zq ?_;refine zm ?_;refine AOps.fieldAddrN 30 0 0 rfl rfl rfl rfl ?_;refine zb ?_;refine AOps.lookup_pno rfl rfl rfl rfl rfl rfl rfl rfl (by with_reducible assumption) ?_;refine Q272 ?_;refine Q262 ?_;refine Q328 ?_;refine Q96 ?_;refine Q43 ?_;(with_reducible apply AW.give6 14 9 12 3);(iterate 3 exact rfl);refine Q144 ?_)
   (apply ends_ret;(exact Res.two (.tmp rfl rfl) (.tmp rfl rfl));(refine Q98 ?_;refine LeL.cons ?_ ?_;refine Le.litI ?_;(first|rfl|simp);exact LeL.nil))
  ·rw[List.drop_eq_nil_of_le (by omega),runC_nil] at hrun
   have hie:i=l.length:=by omega
   have hR1:R.1.ref=s.ref:=by rw[hrun]
   have hR2:R.2=l.length:=by rw[hrun,hie];simp
   rw[hR1,hR2]
   (refine Q208 ?_;(with_reducible apply AW.give6 16 9 2 3);(iterate 3 exact rfl);(try refine nz ?_);refine zq ?_;refine AOps.move_rptr rfl rfl rfl ?_;refine zm ?_;refine zn ?_;refine AOps.assign_rptr rfl rfl rfl ?_;refine Q28 ?_)
   (apply ends_ret;(exact Res.two (.tmp rfl rfl) (.tmp rfl rfl));(refine Q98 ?_;refine LeL.cons ?_ ?_;refine Le.litI ?_;(rfl);exact LeL.nil))
end Go.Ab
