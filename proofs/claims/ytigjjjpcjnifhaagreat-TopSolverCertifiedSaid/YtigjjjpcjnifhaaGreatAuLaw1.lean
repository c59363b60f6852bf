/- The solver finds the least satisfying assignment, or returns a proof that the checker accepts and whose last clause is the negated core. No conditions. -/
import Derived.Test.YtigjjjpcjnifhaaGreatAuUF
import Derived.Test.YtigjjjpcjnifhaaGreatAbZ
import Derived.Test.YtigjjjpcjnifhaaGreatAbL3
import Derived.Test.YtigjjjpcjnifhaaGreatAuS7
import Derived.Test.YtigjjjpcjnifhaaGreatAuA2
import Derived.Test.YtigjjjpcjnifhaaGreatAuS9
import Derived.Test.YtigjjjpcjnifhaaGreatAuU5
import Derived.Test.YtigjjjpcjnifhaaGreatAuC3
import Derived.Test.YtigjjjpcjnifhaaGreatAbL4
import Derived.Test.YtigjjjpcjnifhaaGreatAbL2
import Derived.Test.YtigjjjpcjnifhaaGreatRows
import Derived.WalkKit
import Derived.ProofKit
import Derived.OpenShut
import Derived.ChangeOld
import Derived.Below
set_option linter.unusedSimpArgs false
set_option linter.unusedVariables false
namespace Go.Ab
open Go Go.Proofs
open Nat (reduceAdd reduceSub)
set_option maxRecDepth 20000
set_option maxHeartbeats 8000000
theorem KB (l:List Bool) (i:Nat) (b:Bool):(l.map hX).set i [PV.lit (.bool b)]=(l.set i b).map hX:=by
 rw[List.map_set];rfl
theorem Bz (v:Nat) (b:Bool) (T:List Bool):(List.replicate (v+1) false++T).set v b=List.replicate v false++b::T:=by
 rw[List.replicate_succ',List.append_assoc,List.set_append,if_neg (by simp)]
 simp
theorem yi (r:Nat):decide ((r:Int) % 2=1)=decide (r % 2=1):=by
 rw[Bool.eq_iff_iff,decide_eq_true_iff,decide_eq_true_iff];omega
theorem Af (v:List Bool) (x:Int):cQ v [x]=dg v x:=by simp [cQ]
theorem EV {l:List Int} {k:Nat} (hk:k<l.length):(l.drop (k:Int).toNat).take (((k:Int)+1).toNat - (k:Int).toNat)=[l[k]]:=by
 rw[show(k:Int).toNat=k from rfl,show((k:Int)+1).toNat - k=1 from by omega];exact Ir hk
theorem wu {vars:Int} {l:List Int} {k:Nat} (hk:k<l.length) (hc:ay vars l=true):ay vars [l[k]]=true:=by
 unfold ay at*
 rw[List.all_eq_true] at*
 intro x hx
 rw[List.mem_singleton] at hx
 subst hx
 exact hc _ (List.getElem_mem hk)
attribute [local irreducible] AW aa bE aX AR bd aW bm bD ay cq
theorem yh (n k:Nat) (hn:n≤1000) (hk:k≤1000000):Fn Tryz.prog 14 [al n,al k] (.pv (jj (cq n k))):=by
 have Dr:List.replicate ((n:Nat):Int).toNat [PV.lit (.bool false)]=(List.replicate n false).map hX:=by rw[Int.toNat_natCast];exact HA n
 have q_:=eM n k
 refine Fn.enter (n:=26) Tryz.func14 rfl rfl rfl rfl rfl (by decide) fun g aU aT=>?_;(try refine nz ?_)
 (refine l7 ?_;refine zm ?_;refine HX ?_;refine nz ?_;refine od ?_;(with_reducible apply AW.pg 2);(rw[Dr]);refine nV ?_;refine kh ?_;refine nV ?_;refine tW ?_;refine AW.block ?_)
 (refine nz ?_;apply AW.bM [4] [0] (fun q:Nat×Nat×List Bool=>([(5,.own 0 4 1 ((List.replicate q.1 false++q.2.2).map hX)),(6,al (q.2.1:Nat)),(7,al ((q.1:Int) - 1))]:List (Nat×AV))) (fun q:Nat×Nat×List Bool=>([]:List (Nat×Option Ob))) (fun q:Nat×Nat×List Bool=>(cq n k=cq q.1 q.2.1++q.2.2∧q.1≤n∧q.2.1≤1000000∧q.1+q.2.2.length=n)) (fun q:Nat×Nat×List Bool=>q.1) ((n,k,([]:List Bool)));(conv=>lhs;simp only[Nf.gQ,Nf.all,Nat.reduceBEq,reduceAdd,reduceSub]);(all_goals skip))
 ·exact⟨by rw[List.append_nil],Nat.le_refl _,hk,rfl⟩
 ·exact aO rfl (by(refine⟨.ak (by first|rfl|(rw[List.append_nil])) rfl,?_⟩;refine⟨.ai (by first|rfl|(rw[List.append_nil])),?_⟩;refine⟨.ai (by first|rfl|(rw[List.append_nil])),?_⟩;refine⟨.ai (by first|rfl|(rw[List.append_nil])),?_⟩;exact trivial)) (by(refine⟨.row rfl,?_⟩;exact trivial)) rfl
 rintro⟨v,r,T⟩ ⟨hb,hv,hr,hT⟩
 simp only at hb hv hr hT
 cases v with
 |zero=>
  (refine jJ ?_;refine zm ?_;refine xT ?_;refine AW.e8 rfl rfl ?_;refine r8 ?_;refine zg ?_;refine nN ?_)
  have e:(List.replicate 0 false++T)=cq n k:=by rw[hb];unfold cq;rfl
  rw[e]
  (apply ax;(exact bA.one (.tmp rfl rfl));(exact Le.own _ _ _ _ rfl))
 |succ v=>
  have ek:((v+1:Nat):Int) - 1=(v:Int):=by omega
  have hlen:(List.replicate (v+1) false++T).length=n:=by rw[List.length_append,List.length_replicate];exact hT
  have JG:cq n k=cq v (r / 2)++(decide (r % 2=1)::T):=by
                                       rw[hb];conv=>lhs;unfold cq
                                       rw[List.append_assoc];rfl
  have de:=fun b=>(KB (List.replicate (v+1) false++T) v b).trans (congrArg _ (Bz v b T))
  have Tu:((r:Int) / 2)=((r / 2:Nat):Int):=by omega
  rw[ek]
  (refine jJ ?_;refine zm ?_;refine Kw ?_;refine zg ?_;(iterate 2 refine zm ?_);refine aa.Ol rfl rfl rfl rfl rfl (by omega) ?_;refine aa.eql rfl rfl rfl rfl rfl ?_;refine uu ?_;refine aa.bQ rfl rfl rfl rfl rfl rfl rfl rfl ?_;refine nz ?_;refine zd ?_;refine AW.region ?_;refine zm ?_;refine aa.Pu rfl rfl rfl rfl rfl (by omega) ?_;refine za ?_;refine aa.nil ?_;refine we ?_;refine nz ?_;refine zm ?_;refine tW ?_)
  exact⟨(v,r / 2,decide (r % 2=1)::T),⟨JG,(by show v≤n;omega),(by show r / 2≤1000000;omega),(by show v+(T.length+1)=n;omega)⟩,Nat.lt_succ_self v,aO rfl (by(refine⟨.ak (by first|rfl|(rw[de,yi])) rfl,?_⟩;refine⟨.ai (by first|rfl|(rw[de,yi])),?_⟩;refine⟨.ai (by first|rfl|(rw[de,yi])),?_⟩;refine⟨.ai (by first|rfl|(rw[de,yi])),?_⟩;exact trivial)) (by(refine⟨.row rfl,?_⟩;exact trivial)) rfl⟩
theorem uI (v:List Bool) (c:List Int) (vars:Int) (hv:0≤vars∧vars≤1000) (hl:(v.length:Int)=vars) (hc:ay vars c=true):Fn Tryz.prog 68 [.pv (jj v),.pv (ints c)] (aF (cQ v c)):=by
 have JT:=aY hc
 refine Fn.enter (n:=46) Tryz.func68 rfl rfl rfl rfl rfl (by decide) fun g aU aT=>?_;(try refine nz ?_)
 refine AW.cF 1 rfl fun hlen=>?_
 (refine j9 ?_;refine kn ?_)
 (refine nz ?_;apply AW.bM [0,1] [] (fun k:Nat=>([(5,al k)]:List (Nat×AV))) (fun k:Nat=>([]:List (Nat×Option Ob))) (fun k:Nat=>k≤c.length∧cQ v (c.take k)=false) (fun k:Nat=>c.length - k) (0);(conv=>lhs;simp only[Nf.gQ,Nf.all,Nat.reduceBEq,reduceAdd,reduceSub]);(all_goals skip))
 ·exact⟨Nat.zero_le _,by simp [cQ]⟩
 ·exact GY
 rintro k ⟨hk,ew⟩
 by_cases aM:k<c.length
 ·have hx:=JT c[k] (List.getElem_mem aM)
  by_cases hp:0<c[k]
  ·have hi:(c[k] - 1).toNat<v.length:=by omega
   have qI:=q8 (v:=v) hp hi
   cases cW:v[(c[k] - 1).toNat] with
   |true=>
    rw[sz aM (qI.trans cW)]
    (refine rQ ?_;(focus ((with_reducible apply aa.aj);(iterate 7 exact rfl);rotate_left;omega));refine zr ?_;refine qq ?_;refine j8 ?_;refine zm ?_;refine j8 ?_;(focus ((with_reducible apply aa.aj);(iterate 7 exact rfl);rotate_left;omega));refine wQ ?_;refine Eg ?_;(focus ((with_reducible apply aa.bs);(iterate 7 exact rfl);omega;rotate_left;(first|omega|exact Nat.zero_lt_one|(simp;done))));refine zt ?_;refine zr ?_;refine zT ?_;refine zm ?_;(iterate 6 refine aa.bY rfl rfl rfl rfl rfl (by assumption) rfl ?_);(iterate 10 refine aa.yu rfl rfl rfl rfl rfl rfl ?_);refine aa.bY rfl rfl rfl rfl rfl (by assumption) rfl ?_;refine aa.DU rfl rfl (by assumption) rfl rfl rfl rfl ?_;refine e6 ?_;refine kf ?_)
    (apply ax;(exact bA.one (.tmp rfl rfl));(refine Le.aF ?_;(rfl)))
   |false=>
    (refine rQ ?_;(focus ((with_reducible apply aa.aj);(iterate 7 exact rfl);rotate_left;omega));refine zr ?_;refine qq ?_;refine j8 ?_;refine zm ?_;refine j8 ?_;(focus ((with_reducible apply aa.aj);(iterate 7 exact rfl);rotate_left;omega));refine wQ ?_;refine Eg ?_;(focus ((with_reducible apply aa.bs);(iterate 7 exact rfl);omega;rotate_left;(first|omega|exact Nat.zero_lt_one|(simp;done))));refine zt ?_;refine zr ?_;refine zT ?_;refine zm ?_;refine pt ?_;refine zm ?_;refine pt ?_;refine zm ?_;refine pt ?_;(focus ((with_reducible apply aa.aj);(iterate 7 exact rfl);rotate_left;omega));refine pt ?_;refine zr ?_;refine pt ?_;refine zs ?_;refine pt ?_;refine zm ?_;(iterate 10 refine aa.gG rfl rfl rfl rfl rfl rfl (by first|omega|decide) ?_);refine pt ?_;refine zF ?_;refine aa.s_ rfl rfl (by assumption) rfl rfl rfl rfl ?_;refine kg ?_;refine lz ?_)
    exact⟨k+1,⟨by omega,qd aM ew (qI.trans cW)⟩,by omega,aO rfl (by(refine⟨.eq rfl rfl,?_⟩;(iterate 2 refine⟨.eq rfl rfl,?_⟩);exact trivial)) (by(exact trivial)) rfl⟩
  ·have hp2:c[k]<0:=by omega
   have hi:(0 - c[k] - 1).toNat<v.length:=by omega
   have qI:=uw (v:=v) hp2 hi
   cases cW:v[(0 - c[k] - 1).toNat] with
   |true=>
    rw[cW] at qI
    (refine rQ ?_;(focus ((with_reducible apply aa.aj);(iterate 7 exact rfl);rotate_left;omega));refine zr ?_;refine qq ?_;refine Hw ?_;refine l9 ?_;refine jY ?_;(focus ((with_reducible apply aa.aj);(iterate 7 exact rfl);rotate_left;omega));refine zl ?_;refine zr ?_;refine zl ?_;refine zs ?_;refine zl ?_;refine zm ?_;refine j8 ?_;refine zm ?_;refine j8 ?_;(focus ((with_reducible apply aa.aj);(iterate 7 exact rfl);rotate_left;omega));refine wQ ?_;(iterate 2 refine Eg ?_);(focus ((with_reducible apply aa.bs);(iterate 7 exact rfl);omega;rotate_left;(first|omega|exact Nat.zero_lt_one|(simp;done))));refine wQ ?_;refine aa.not rfl rfl rfl ?_;refine zl ?_;refine zT ?_;refine tB ?_;(focus ((with_reducible apply AW.cond);exact rfl;exact rfl;all_goals intro jW));refine d_ ?_;refine kf ?_;(all_goals skip);rotate_left;refine AW.skip ?_;refine lz ?_;(all_goals skip);rotate_left)
    ·exfalso;rw[cW] at jW;cases jW
    ·exact⟨k+1,⟨by omega,qd aM ew qI⟩,by omega,aO rfl (by(refine⟨.eq rfl rfl,?_⟩;(iterate 2 refine⟨.eq rfl rfl,?_⟩);exact trivial)) (by(exact trivial)) rfl⟩
   |false=>
    rw[cW] at qI
    rw[sz aM qI]
    (refine rQ ?_;(focus ((with_reducible apply aa.aj);(iterate 7 exact rfl);rotate_left;omega));refine zr ?_;refine qq ?_;refine Hw ?_;refine l9 ?_;refine jY ?_;(focus ((with_reducible apply aa.aj);(iterate 7 exact rfl);rotate_left;omega));refine zl ?_;refine zr ?_;refine zl ?_;refine zs ?_;refine zl ?_;refine zm ?_;refine j8 ?_;refine zm ?_;refine j8 ?_;(focus ((with_reducible apply aa.aj);(iterate 7 exact rfl);rotate_left;omega));refine wQ ?_;(iterate 2 refine Eg ?_);(focus ((with_reducible apply aa.bs);(iterate 7 exact rfl);omega;rotate_left;(first|omega|exact Nat.zero_lt_one|(simp;done))));refine wQ ?_;refine aa.not rfl rfl rfl ?_;refine zl ?_;refine zT ?_;refine tB ?_;(focus ((with_reducible apply AW.cond);exact rfl;exact rfl;all_goals intro jW));refine d_ ?_;refine kf ?_;(all_goals skip);rotate_left;refine AW.skip ?_;refine lz ?_;(all_goals skip);rotate_left)
    ·(apply ax;(exact bA.one (.tmp rfl rfl));(refine Le.aF ?_;(rfl)))
    ·exfalso;rw[cW] at jW;cases jW
 ·rw[bK (l:=c) (by omega)] at ew
  rw[ew]
  (refine uN ?_)
  (apply ax;(exact bA.one (.tmp rfl rfl));(refine Le.aF ?_;(rfl)))
theorem Ge (v:List Bool) (cl:List (List Int)) (vars:Int) (hv:0≤vars∧vars≤1000) (hl:(v.length:Int)=vars) (hc:∀c∈cl,ay vars c=true):Fn Tryz.prog 32 [.pv (jj v),.pv (cV cl)] (aF (allM v cl)):=by
 refine Fn.enter (n:=21) Tryz.func32 rfl rfl rfl rfl rfl (by decide) fun g aU aT=>?_;(try refine nz ?_)
 refine AW.cF 1 rfl fun hlen=>?_
 (refine j9 ?_;refine kn ?_)
 (refine nz ?_;apply AW.bM [0,1] [] (fun k:Nat=>([(5,al k)]:List (Nat×AV))) (fun k:Nat=>([]:List (Nat×Option Ob))) (fun k:Nat=>k≤cl.length∧allM v (cl.take k)=true) (fun k:Nat=>cl.length - k) (0);(conv=>lhs;simp only[Nf.gQ,Nf.all,Nat.reduceBEq,reduceAdd,reduceSub]);(all_goals skip))
 ·exact⟨Nat.zero_le _,by simp [allM]⟩
 ·exact GY
 rintro k ⟨hk,ew⟩
 by_cases aM:k<cl.length
 ·have EU:=uI v _ vars hv hl (hc _ (List.getElem_mem aM))
  cases cW:cQ v cl[k] with
  |true=>
   rw[cW] at EU
   (refine Cq ?_;refine Q5 ?_;refine d_ ?_;(iterate 3 refine zm ?_);(focus ((with_reducible apply aa.aj);(iterate 7 exact rfl);rotate_left;omega));refine zr ?_;refine zA (EU) ?_;refine oq ?_;refine tv ?_;refine kg ?_;refine lz ?_)
   exact L3
  |false=>
   rw[cW] at EU
   rw[EJ aM cW]
   (refine Cq ?_;refine Q5 ?_;refine d_ ?_;(iterate 3 refine zm ?_);(focus ((with_reducible apply aa.aj);(iterate 7 exact rfl);rotate_left;omega));refine zr ?_;refine zA (EU) ?_;refine oq ?_;refine tv ?_;refine e6 ?_;refine kf ?_)
   (apply ax;(exact bA.one (.tmp rfl rfl));(refine Le.aF ?_;(rfl)))
 ·rw[bK (l:=cl) (by omega)] at ew
  rw[ew]
  (refine uN ?_)
  (apply ax;(exact bA.one (.tmp rfl rfl));(refine Le.aF ?_;(rfl)))
theorem Cn (v:List Bool) (l:List Int) (vars:Int) (hv:0≤vars∧vars≤1000) (hl:(v.length:Int)=vars) (hc:ay vars l=true):Fn Tryz.prog 33 [.pv (jj v),.pv (ints l)] (aF (eR v l)):=by
 refine Fn.enter (n:=22) Tryz.func33 rfl rfl rfl rfl rfl (by decide) fun g aU aT=>?_;(try refine nz ?_)
 refine AW.cF 1 rfl fun hlen=>?_
 (refine j9 ?_;refine kn ?_)
 (refine nz ?_;apply AW.bM [0,1] [] (fun k:Nat=>([(5,al k)]:List (Nat×AV))) (fun k:Nat=>([]:List (Nat×Option Ob))) (fun k:Nat=>k≤l.length∧eR v (l.take k)=true) (fun k:Nat=>l.length - k) (0);(conv=>lhs;simp only[Nf.gQ,Nf.all,Nat.reduceBEq,reduceAdd,reduceSub]);(all_goals skip))
 ·exact⟨Nat.zero_le _,by simp [eR]⟩
 ·exact GY
 rintro k ⟨hk,ew⟩
 by_cases aM:k<l.length
 ·have EU:=uI v [l[k]] vars hv hl (wu aM hc)
  rw[Af,← EV aM] at EU
  cases cW:dg v l[k] with
  |true=>
   rw[cW] at EU
   (refine MG ?_;refine tv ?_;refine kg ?_;refine lz ?_)
   exact L3
  |false=>
   rw[cW] at EU
   rw[BC aM cW]
   (refine MG ?_;refine tv ?_;refine e6 ?_;refine kf ?_)
   (apply ax;(exact bA.one (.tmp rfl rfl));(refine Le.aF ?_;(rfl)))
 ·rw[bK (l:=l) (by omega)] at ew
  rw[ew]
  (refine uN ?_)
  (apply ax;(exact bA.one (.tmp rfl rfl));(refine Le.aF ?_;(rfl)))
theorem Gt (l:List Int) (x:Int):Fn Tryz.prog 40 [.pv (ints l),al x] (aF (decide (x∈l))):=by
 refine Fn.enter (n:=18) Tryz.func40 rfl rfl rfl rfl rfl (by decide) fun g aU aT=>?_;(try refine nz ?_)
 refine AW.cF 0 rfl fun hlen=>?_
 (refine j9 ?_;refine kn ?_)
 (refine nz ?_;apply AW.bM [0,1] [] (fun k:Nat=>([(5,al k)]:List (Nat×AV))) (fun k:Nat=>([]:List (Nat×Option Ob))) (fun k:Nat=>k≤l.length∧x∉l.take k) (fun k:Nat=>l.length - k) (0);(conv=>lhs;simp only[Nf.gQ,Nf.all,Nat.reduceBEq,reduceAdd,reduceSub]);(all_goals skip))
 ·exact⟨Nat.zero_le _,by simp⟩
 ·exact GY
 rintro k ⟨hk,ew⟩
 by_cases aM:k<l.length
 ·by_cases he:l[k]=x
  ·rw[decide_eq_true (show x∈l from he▸List.getElem_mem aM)]
   (refine rQ ?_;(focus ((with_reducible apply aa.aj);(iterate 7 exact rfl);rotate_left;omega));refine zr ?_;refine zm ?_;refine lh ?_;refine zc ?_;refine d_ ?_;refine kf ?_)
   (apply ax;(exact bA.one (.tmp rfl rfl));(refine Le.aF ?_;(rfl)))
  ·(refine rQ ?_;(focus ((with_reducible apply aa.aj);(iterate 7 exact rfl);rotate_left;omega));refine zr ?_;refine zm ?_;refine lh ?_;refine rL ?_;refine lz ?_)
   exact⟨k+1,⟨by omega,vW ew aM he⟩,by omega,aO rfl (by(refine⟨.eq rfl rfl,?_⟩;(iterate 2 refine⟨.eq rfl rfl,?_⟩);exact trivial)) (by(exact trivial)) rfl⟩
 ·rw[bK (l:=l) (by omega)] at ew
  rw[decide_eq_false ew]
  (refine uN ?_)
  (apply ax;(exact bA.one (.tmp rfl rfl));(refine Le.aF ?_;(rfl)))
theorem H_ (a b:List Int) (h:∀x∈a,x∈b):Fn Tryz.prog 16 [.pv (ints a),.pv (ints b)] (aF true):=by
 refine Fn.enter (n:=21) Tryz.func16 rfl rfl rfl rfl rfl (by decide) fun g aU aT=>?_;(try refine nz ?_)
 refine AW.cF 0 rfl fun hlen=>?_
 (refine j9 ?_;refine kn ?_)
 (refine nz ?_;apply AW.bM [0,1] [] (fun k:Nat=>([(5,al k)]:List (Nat×AV))) (fun k:Nat=>([]:List (Nat×Option Ob))) (fun k:Nat=>k≤a.length) (fun k:Nat=>a.length - k) (0);(conv=>lhs;simp only[Nf.gQ,Nf.all,Nat.reduceBEq,reduceAdd,reduceSub]);(all_goals skip))
 ·exact Nat.zero_le _
 ·exact GY
 rintro k hk
 by_cases aM:k<a.length
 ·have hf:=Gt b a[k]
  rw[decide_eq_true (h _ (List.getElem_mem aM))] at hf
  (refine Cq ?_;refine Q5 ?_;refine d_ ?_;(iterate 3 refine zm ?_);(focus ((with_reducible apply aa.aj);(iterate 7 exact rfl);rotate_left;omega));refine zr ?_;refine zA (hf) ?_;refine oq ?_;refine tv ?_;refine kg ?_;refine lz ?_)
  exact⟨k+1,by omega,by omega,aO rfl (by(refine⟨.eq rfl rfl,?_⟩;(iterate 2 refine⟨.eq rfl rfl,?_⟩);exact trivial)) (by(exact trivial)) rfl⟩
 ·(refine uN ?_)
  (apply ax;(exact bA.one (.tmp rfl rfl));(refine Le.aF ?_;(rfl)))
theorem D6 (a:List Int):Fn Tryz.prog 17 [.pv (ints a),.pv (ints a)] (aF true):=by
 refine Fn.enter (n:=26) Tryz.func17 rfl rfl rfl rfl rfl (by decide) fun g aU aT=>?_;(try refine nz ?_)
 refine AW.cF 0 rfl fun hlen=>?_
 (refine Jt ?_;refine kn ?_)
 (refine nz ?_;apply AW.bM [0,1] [] (fun k:Nat=>([(5,al k)]:List (Nat×AV))) (fun k:Nat=>([]:List (Nat×Option Ob))) (fun k:Nat=>k≤a.length) (fun k:Nat=>a.length - k) (0);(conv=>lhs;simp only[Nf.gQ,Nf.all,Nat.reduceBEq,reduceAdd,reduceSub]);(all_goals skip))
 ·exact Nat.zero_le _
 ·exact GY
 rintro k hk
 by_cases aM:k<a.length
 ·(refine Cq ?_;refine Q5 ?_;refine zo ?_;(with_reducible apply AW.bu);exact rfl;exact rfl;kernel_rfl;(with_reducible assumption);(iterate 2 refine zm ?_);(focus ((with_reducible apply aa.aj);(iterate 7 exact rfl);rotate_left;omega));refine zr ?_;(iterate 2 refine zm ?_);(focus ((with_reducible apply aa.aj);(iterate 7 exact rfl);rotate_left;omega));refine zr ?_;refine AA ?_;refine rL ?_;refine lz ?_)
  all_goals first|exact absurd rfl jW|exact⟨k+1,by omega,by omega,aO rfl (by(refine⟨.eq rfl rfl,?_⟩;exact ta)) (by(exact trivial)) rfl⟩
 ·(refine uN ?_)
  (apply ax;(exact bA.one (.tmp rfl rfl));(refine Le.aF ?_;(rfl)))
theorem Ce (l:List Int) (hs:Sm l) (hl:l.length≤1000000):Fn Tryz.prog 18 [.pv (ints l)] (.pv (ints (l.map fun x=>0 - x))):=by
 refine Fn.enter (n:=20) Tryz.func18 rfl rfl rfl rfl rfl (by decide) fun g aU aT=>?_;(try refine nz ?_)
 refine AW.cF 0 rfl fun hlen=>?_
 (refine l7 ?_;refine kh ?_;refine d_ ?_;refine kn ?_)
 (refine nz ?_;apply AW.bM [2,0] [] (fun k:Nat=>([(3,.own 0 3 1 (((l.take k).map fun x=>0 - x).map encI)),(4,al k)]:List (Nat×AV))) (fun k:Nat=>([(0,some .row)]:List (Nat×Option Ob))) (fun k:Nat=>k≤l.length) (fun k:Nat=>l.length - k) (0);(conv=>lhs;simp only[Nf.gQ,Nf.all,Nat.reduceBEq,reduceAdd,reduceSub]);(all_goals skip))
 ·exact Nat.zero_le _
 ·exact aO rfl (by(refine⟨.nilown _ _ _ rfl rfl,?_⟩;(iterate 2 refine⟨.ai (by first|rfl|simp),?_⟩);refine⟨.bF (by first|rfl|simp),?_⟩;exact trivial)) (by(refine⟨.newrow rfl,?_⟩;exact trivial)) rfl
 rintro k hk
 by_cases aM:k<l.length
 ·have hx:=hs _ (List.getElem_mem aM)
  have Aa:(l.take k).length≤1000000:=by simp;omega
  (refine Cq ?_;refine Q5 ?_;refine zU ?_;(iterate 2 refine zm ?_);(focus ((with_reducible apply aa.aj);(iterate 7 exact rfl);rotate_left;omega));refine zr ?_;refine aa.sub rfl rfl rfl rfl rfl (by omega) ?_;refine pb ?_;(with_reducible apply aa.bh);exact rfl;(first|exact .pv rfl|exact .own rfl|exact .nil rfl);(iterate 9 exact rfl);(first|omega|(simp only[List.length_map,List.length_append,List.length_cons,List.length_nil,List.length_drop,List.length_take,List.length_set,List.length_range,aL];omega));refine nz ?_;refine sU ?_;refine nz ?_;refine zm ?_;refine zj ?_;refine eO ?_)
  exact⟨k+1,by omega,by omega,aO rfl (by(refine⟨.ak (by first|rfl|(rw[aR aM,List.map_append,List.map_append];rfl)) rfl,?_⟩;refine⟨.ai (by first|rfl|(rw[aR aM,List.map_append,List.map_append];rfl)),?_⟩;refine⟨.ai (by first|rfl|(rw[aR aM,List.map_append,List.map_append];rfl)),?_⟩;refine⟨.bF (by first|rfl|(rw[aR aM,List.map_append,List.map_append];rfl)),?_⟩;exact trivial)) (by(refine⟨.row rfl,?_⟩;exact trivial)) rfl⟩
 ·rw[bK (l:=l) (by omega)]
  (refine Cq ?_;refine zk ?_;refine r8 ?_;refine zg ?_;refine nN ?_)
  (apply ax;(exact bA.one (.tmp rfl rfl));(exact Le.own _ _ _ _ rfl))
end Go.Ab
/- The least assignment's number,walked. -/
namespace Go.Ab
open Go Go.Proofs
open Nat (reduceAdd reduceSub)
set_option maxRecDepth 20000
set_option maxHeartbeats 8000000
theorem qU (p:Nat→Bool):∀m,∃i,i≤m∧(∀j,j<i→p j=false)∧(i<m→p i=true)
 |0=>⟨0,Nat.le_refl _,fun j hj=>by omega,fun h=>by omega⟩
 |m+1=>by
  obtain⟨i,h1,h2,h3⟩:=qU p m
  by_cases e:i<m
  ·exact⟨i,by omega,h2,fun _=>h3 e⟩
  ·obtain rfl:i=m:=by omega
   cases hp:p i with
   |true=>exact⟨i,by omega,h2,fun _=>hp⟩
   |false=>exact⟨i+1,Nat.le_refl _,fun j hj=>by
     by_cases e2:j=i
     ·rw[e2];exact hp
     ·exact h2 j (by omega),fun h=>by omega⟩
theorem BQ:∀k:_root_.Fin 9,IntKind.i64.wrap (1*2 ^ k.val)=((2 ^ k.val:Nat):Int):=by decide
attribute [local irreducible] AW aa bE aX AR bd aW bm bD ay cq allM eR
theorem E8 (n:Nat) (cl:List (List Int)) (a:List Int) (hn:n≤8) (dq:∀c∈cl,ay n c=true) (ha:ay n a=true) (i:Nat) (hi:i≤2 ^ n) (nt:∀j,j<i→jX n cl a j=false) (kT:i<2 ^ n→jX n cl a i=true):Fn Tryz.prog 9 [w6 (n:Nat) cl,.pv (ints a)] (al (if i<2 ^ n then (i:Int) else -1)):=by
 have KZ:2 ^ n≤2 ^ 8:=Nat.pow_le_pow_right (by omega) hn
 have hp8:(2:Nat) ^ 8=256:=by decide
 obtain⟨M,hM⟩:∃M,M=2 ^ n:=⟨_,rfl⟩
 rw[← hM] at KZ hi kT ⊢
 have MY:∀k:Nat,k≤M→Fn Tryz.prog 14 [al (n:Nat),al (k:Nat)] (.pv (jj (cq n k)))∧Fn Tryz.prog 32 [.pv (jj (cq n k)),.pv (cV cl)] (aF (allM (cq n k) cl))∧Fn Tryz.prog 33 [.pv (jj (cq n k)),.pv (ints a)] (aF (eR (cq n k) a)):=fun k hk=>
  ⟨yh n k (by omega) (by omega),Ge _ _ (n:Nat) ⟨by omega,by omega⟩ (by rw[eM]) dq,Cn _ _ (n:Nat) ⟨by omega,by omega⟩ (by rw[eM]) ha⟩
 have JI:IntKind.i64.wrap (1*2 ^ ((n:Nat):Int).toNat)=(M:Int):=by
  rw[Int.toNat_natCast,hM]
  exact BQ ⟨n,by omega⟩
 refine Fn.enter (n:=33) Tryz.func9 rfl rfl rfl rfl rfl (by decide) fun g aU aT=>?_;(try refine nz ?_)
 (refine tR ?_;refine kn ?_)
 (refine nz ?_;apply AW.bM [2,1] [0] (fun k:Nat=>([(5,al k)]:List (Nat×AV))) (fun k:Nat=>([]:List (Nat×Option Ob))) (fun k:Nat=>k≤i) (fun k:Nat=>M - k) (0);(conv=>lhs;simp only[Nf.gQ,Nf.all,Nat.reduceBEq,reduceAdd,reduceSub]);(all_goals skip))
 ·exact Nat.zero_le _
 ·exact aO rfl (by(refine⟨.eq rfl rfl,?_⟩;(iterate 2 refine⟨.eq rfl rfl,?_⟩);exact trivial)) (by(refine⟨.box _ rfl ?_,?_⟩;(iterate 2 refine⟨.eq rfl rfl,?_⟩);(iterate 2 exact trivial))) rfl
 rintro k hk
 by_cases aM:k<M
 ·have M9:(k:Int)<IntKind.i64.wrap (1*2 ^ ((n:Nat):Int).toNat):=by rw[JI];omega
  obtain⟨hb,oU,KI⟩:=MY k (by omega)
  by_cases he:k=i
  ·subst he
   have hg:=kT aM
   unfold jX at hg
   rw[Bool.and_eq_true] at hg
   rw[hg.1] at oU
   rw[hg.2] at KI
   rw[if_pos aM]
   (refine jL ?_;refine Gr ?_;show aa .held _ _ _ [_,_,_,_,_] _ _;refine oJ ?_;refine zm ?_;refine rh ?_;refine Q4 ?_;intro k_ cR;refine E7 ?_;intro g_ ag bw;refine zP (hb) ?_;refine wA ?_;intro g_ ag bw;refine zA (oU) ?_;refine xu ?_;intro g_ ag;show aa .held _ _ _ [_] _ _;refine za ?_;refine Q4 ?_;intro k_ cR;refine Ff ?_;refine zl ?_;refine zm ?_;refine aa.bL rfl rfl rfl rfl rfl rfl ?_;refine e6 ?_;refine zm ?_;refine kf ?_)
   (apply ax;(exact bA.one (.tmp rfl rfl));(refine Le.al ?_;(rfl)))
  ·have hg:=nt k (by omega)
   unfold jX at hg
   cases e1:allM (cq n k) cl with
   |true=>
    rw[e1,Bool.true_and] at hg
    rw[e1] at oU
    rw[hg] at KI
    (refine jL ?_;refine Gr ?_;show aa .held _ _ _ [_,_,_,_,_] _ _;refine oJ ?_;refine zm ?_;refine rh ?_;refine Q4 ?_;intro k_ cR;refine E7 ?_;intro g_ ag bw;refine zP (hb) ?_;refine wA ?_;intro g_ ag bw;refine zA (oU) ?_;refine xu ?_;intro g_ ag;show aa .held _ _ _ [_] _ _;refine za ?_;refine Q4 ?_;intro k_ cR;refine Ff ?_;refine zl ?_;refine zm ?_;refine aa.bL rfl rfl rfl rfl rfl rfl ?_;refine kg ?_;refine lz ?_)
    exact IF
   |false=>
    rw[e1] at oU
    cases e2:eR (cq n k) a with
    |true=>
     rw[e2] at KI
     (refine jL ?_;refine Gr ?_;show aa .held _ _ _ [_,_,_,_,_] _ _;refine oJ ?_;refine zm ?_;refine rh ?_;refine Q4 ?_;intro k_ cR;refine E7 ?_;intro g_ ag bw;refine zP (hb) ?_;refine wA ?_;intro g_ ag bw;refine zA (oU) ?_;refine xu ?_;intro g_ ag;show aa .held _ _ _ [_] _ _;refine za ?_;refine Q4 ?_;intro k_ cR;refine Ff ?_;refine aa.bY rfl rfl rfl rfl rfl rfl rfl ?_;refine tB ?_;refine Ej ?_;refine lz ?_)
     exact IF
    |false=>
     rw[e2] at KI
     (refine jL ?_;refine Gr ?_;show aa .held _ _ _ [_,_,_,_,_] _ _;refine oJ ?_;refine zm ?_;refine rh ?_;refine Q4 ?_;intro k_ cR;refine E7 ?_;intro g_ ag bw;refine zP (hb) ?_;refine wA ?_;intro g_ ag bw;refine zA (oU) ?_;refine xu ?_;intro g_ ag;show aa .held _ _ _ [_] _ _;refine za ?_;refine Q4 ?_;intro k_ cR;refine Ff ?_;refine aa.bY rfl rfl rfl rfl rfl rfl rfl ?_;refine tB ?_;refine Ej ?_;refine lz ?_)
     exact IF
 ·rw[if_neg (show ¬i<M by omega)]
  have M9:¬(k:Int)<IntKind.i64.wrap (1*2 ^ ((n:Nat):Int).toNat):=by rw[JI];omega
  (refine jL ?_;refine oJ ?_;refine aa.shl rfl rfl rfl rfl rfl (by omega) ?_;refine iO ?_;refine zk ?_;refine r8 ?_;refine d_ ?_;refine fL ?_)
  (apply ax;(exact bA.one (.tmp rfl rfl));(refine Le.al ?_;(rfl)))
end Go.Ab
/- Well-formed proofs:walked. -/
namespace Go.Ab
open Go Go.Proofs
open Nat (reduceAdd reduceSub)
set_option maxRecDepth 20000
set_option maxHeartbeats 8000000
attribute [local irreducible] AW aa bE aX AR bd aW bm bD ay
theorem zu (n:Nat) (l:List bT) (hn:n≤20000) (hl:l.length≤20000) (hs:∀t∈l,t.kind=1∧t.sym=0∧ay n t.lits=true∧t.lits.length≤1000):Fn Tryz.prog 11 [al (n:Nat),.pv (steps l)] (aF true):=by
 refine Fn.enter (n:=95) Tryz.func11 rfl rfl rfl rfl rfl (by decide) fun g aU aT=>?_;(try refine nz ?_)
 (refine j9 ?_;refine zm ?_;refine zs ?_;refine l9 ?_;refine aa.gtr rfl rfl rfl rfl rfl ?_;refine aa.dm rfl rfl rfl rfl rfl rfl ?_;refine rP ?_;refine zn ?_;refine Bq ?_;refine zd ?_;refine lP ?_;refine nV ?_;refine pE ?_;refine Bs ?_;refine mN ?_;refine aa.dT rfl rfl rfl ?_;refine aa.assign rfl rfl rfl ?_;refine nz ?_;refine zd ?_;refine zo ?_;refine zq ?_;refine l8 ?_)
 (refine nz ?_;apply AW.bM [23,22,6,5,18,9] [0] (fun k:Nat=>([(24,al k)]:List (Nat×AV))) (fun k:Nat=>([]:List (Nat×Option Ob))) (fun k:Nat=>k≤l.length) (fun k:Nat=>l.length - k) (0);(conv=>lhs;simp only[Nf.gQ,Nf.all,Nat.reduceBEq,reduceAdd,reduceSub]);(all_goals skip))
 ·exact Nat.zero_le _
 ·exact Ky
 rintro k hk
 by_cases aM:k<l.length
 ·obtain⟨h1,h2,h3,h4⟩:=hs _ (List.getElem_mem aM)
  have hb:=aY h3
  (refine Bt ?_;(focus ((with_reducible apply aa.aj);(iterate 7 exact rfl);rotate_left;omega));refine aa.pc rfl rfl rfl rfl ?_;refine nz ?_;refine pE ?_;refine zB ?_;refine nz ?_;refine mN ?_;refine aa.ah 44 0 0 rfl rfl rfl rfl ?_;refine zb ?_;refine lf ?_;refine jJ ?_;refine AY ?_;refine zc ?_;refine qi ?_;refine zc ?_;refine d_ ?_;refine FQ ?_;refine zy ?_;refine aa.dM rfl rfl rfl ?_;refine zy ?_;refine xD ?_;(with_reducible apply aa.inline (hf:=Tryz.func35));(with_reducible assumption);(iterate 10 exact rfl);intro g_ aU aT;refine Ba ?_)
  (refine nz ?_;apply AW.bM [7,6,1,1039,1038,1037,1036,1035,1034,1033,1008,1024,1023,1022,1006,1005,1018,1009] [1,0] (fun j:Nat=>([(8,al j)]:List (Nat×AV))) (fun j:Nat=>([]:List (Nat×Option Ob))) (fun j:Nat=>j≤l[k].lits.length) (fun j:Nat=>l[k].lits.length - j) (0);(conv=>lhs;simp only[Nf.gQ,Nf.all,Nat.reduceBEq,reduceAdd,reduceSub]);(all_goals skip))
  ·exact Nat.zero_le _
  ·exact Ky
  rintro j hj
  by_cases kL:j<l[k].lits.length
  ·have hx:=hb _ (List.getElem_mem kL)
   (refine Bt ?_;(focus ((with_reducible apply aa.aj);(iterate 7 exact rfl);rotate_left;omega));refine zr ?_;refine oq ?_;refine zm ?_;refine E9 ?_;refine zd ?_;refine rL ?_;refine tC ?_)
   exact⟨j+1,by omega,by omega,aO rfl (by(first|(refine⟨.eq rfl rfl,?_⟩;(iterate 18 refine⟨.eq rfl rfl,?_⟩);exact trivial)|(refine⟨.eq rfl rfl,?_⟩;(iterate 6 refine⟨.eq rfl rfl,?_⟩);exact trivial))) (by(first|(refine⟨.box _ rfl ?_,?_⟩;(iterate 3 refine⟨.eq rfl rfl,?_⟩);exact trivial;refine⟨.box _ rfl ?_,?_⟩;refine⟨.eq rfl rfl,?_⟩;(iterate 2 exact trivial))|(refine⟨.box _ rfl ?_,?_⟩;refine⟨.eq rfl rfl,?_⟩;(iterate 2 exact trivial)))) rfl⟩
  ·(refine kO ?_;refine iq ?_;refine Aq ?_;refine kg ?_;(iterate 2 refine cb ?_);refine b_ ?_;refine AW.region ?_;refine nz ?_;refine Bf ?_)
   exact⟨k+1,by omega,by omega,aO rfl (by(first|(refine⟨.eq rfl rfl,?_⟩;(iterate 18 refine⟨.eq rfl rfl,?_⟩);exact trivial)|(refine⟨.eq rfl rfl,?_⟩;(iterate 6 refine⟨.eq rfl rfl,?_⟩);exact trivial))) (by(first|(refine⟨.box _ rfl ?_,?_⟩;(iterate 3 refine⟨.eq rfl rfl,?_⟩);exact trivial;refine⟨.box _ rfl ?_,?_⟩;refine⟨.eq rfl rfl,?_⟩;(iterate 2 exact trivial))|(refine⟨.box _ rfl ?_,?_⟩;refine⟨.eq rfl rfl,?_⟩;(iterate 2 exact trivial)))) rfl⟩
 ·(refine kO ?_;refine fL ?_)
  (apply ax;(exact bA.one (.tmp rfl rfl));(refine Le.aF ?_;(rfl)))
end Go.Ab
/- Chapter 19:circuits,in plain terms. -/
namespace Go.Ab.N19
open Go Go.Proofs Go.Ab
set_option maxRecDepth 20000
set_option maxHeartbeats 4000000
structure dw where
 k:Int
 a:Int
 b:Int
deriving DecidableEq
def SH (g:dw) (i:Nat):Prop:=(g.k=1∧1≤g.a∧g.a≤8∧g.b=0)∨(g.k=2∧2≤g.a∧g.a<g.b∧g.b<2*(i:Int)∧g.a / 2≠g.b / 2)
structure lL (gs:List dw):Prop where
 zero:gs[0]? =some ⟨0,0,0⟩
 ok:∀(i:Nat) (h:i<gs.length),i≠0→SH gs[i] i
def ym (gs:List dw) (r:Int):Prop:=0≤r∧r<2*(gs.length:Int)
theorem lL.pos {gs:List dw} (h:lL gs):0<gs.length:=(List.getElem?_eq_some_iff.1 h.zero).1
theorem ym.mono {gs gs':List dw} {r:Int} (h:ym gs r) (hl:gs.length≤gs'.length):ym gs' r:=by unfold ym at*;omega
def ND (vals:List Bool) (a:Int):Bool:=vals.getD (a - 1).toNat false
def K2 (done:List Bool) (r:Int):Bool:=done.getD (r / 2).toNat false==decide (r % 2=0)
def Ci (vals done:List Bool) (g:dw):Bool:=if g.k=1 then ND vals g.a else if g.k=2 then K2 done g.a && K2 done g.b else true
def qS (gs:List dw) (vals:List Bool):Nat→List Bool
 |0=>[]
 |i+1=>qS gs vals i++ [Ci vals (qS gs vals i) (gs.getD i ⟨0,0,0⟩)]
theorem nL (gs:List dw) (vals:List Bool):∀i,(qS gs vals i).length=i
 |0=>rfl
 |i+1=>by rw[qS,List.length_append,nL gs vals i];rfl
def sW (gs:List dw) (vals:List Bool) (i:Nat):Bool:=(qS gs vals (i+1)).getD i false
def Hn (gs:List dw) (vals:List Bool) (r:Int):Bool:=sW gs vals (r / 2).toNat==decide (r % 2=0)
theorem FA (gs:List dw) (vals:List Bool) (i:Nat):sW gs vals i=Ci vals (qS gs vals i) (gs.getD i ⟨0,0,0⟩):=by
 unfold sW
 rw[qS,List.getD_eq_getElem?_getD,List.getElem?_append_right (by rw[nL];omega),nL]
 simp
theorem FH {gs:List dw} (vals:List Bool) {i:Nat} (hi:i<gs.length) (hk:gs[i].k=1):sW gs vals i=ND vals gs[i].a:=by
 have hg:gs.getD i ⟨0,0,0⟩=gs[i]:=by rw[List.getD_eq_getElem?_getD,List.getElem?_eq_getElem hi];rfl
 rw[FA,hg,Ci,if_pos hk]
end Go.Ab.N19
/- Chapter 19:the gates that a reference needs,in plain terms. -/
namespace Go.Ab.N19
open Go Go.Proofs Go.Ab
set_option maxRecDepth 20000
set_option maxHeartbeats 4000000
def oY (gs:List dw) (i:Nat):dw:=gs.getD i ⟨0,0,0⟩
theorem pG {gs:List dw} {i:Nat} (h:i<gs.length):oY gs i=gs[i]:=by unfold oY;rw[List.getD_eq_getElem?_getD,List.getElem?_eq_getElem h];rfl
theorem BF {gs:List dw} {i:Nat} (h:(oY gs i).k=2):i<gs.length:=by
 by_cases hi:i<gs.length
 ·exact hi
 ·unfold oY at h
  rw[List.getD_eq_getElem?_getD,List.getElem?_eq_none (by omega)] at h
  simp at h
theorem lL.and {gs:List dw} (hc:lL gs) {i:Nat} (hk:(oY gs i).k=2):2≤(oY gs i).a∧(oY gs i).a<(oY gs i).b∧(oY gs i).b<2*(i:Int)∧(oY gs i).a / 2≠(oY gs i).b / 2:=by
 have hi:=BF hk
 rw[pG hi] at hk ⊢
 have h0:i≠0:=fun e=>by
  subst e
  have:=hc.zero
  rw[List.getElem?_eq_getElem hi] at this
  rw[Option.some.inj this] at hk
  simp at hk
 rcases hc.ok i hi h0 with h|h
 ·omega
 ·exact⟨h.2.1,h.2.2.1,h.2.2.2.1,h.2.2.2.2⟩
theorem lL.kind {gs:List dw} (hc:lL gs) {i:Nat} (hi:i<gs.length) (h0:i≠0):((oY gs i).k=1∧1≤(oY gs i).a∧(oY gs i).a≤8)∨(oY gs i).k=2:=by
 rw[pG hi]
 rcases hc.ok i hi h0 with h|h
 ·exact .inl ⟨h.1,h.2.1,h.2.2.1⟩
 ·exact .inr h.1
structure BH (gs:List dw) (r:Int) (G:List Int):Prop where
 inc:JV G
 and:∀x∈G,0≤x∧x≤r / 2∧(oY gs x.toNat).k=2
 self:(oY gs (r / 2).toNat).k=2→r / 2∈G
 kids:∀x∈G,((oY gs ((oY gs x.toNat).a / 2).toNat).k=2→(oY gs x.toNat).a / 2∈G)∧((oY gs ((oY gs x.toNat).b / 2).toNat).k=2→(oY gs x.toNat).b / 2∈G)
end Go.Ab.N19
/- Chapter 19:the formula of a reference,in plain terms. -/
namespace Go.Ab.N19
open Go Go.Proofs Go.Ab
set_option maxRecDepth 20000
set_option maxHeartbeats 4000000
def dW (w:List Bool) (l:Int):Bool:=w.getD (max l (-l) - 1).toNat false==decide (0<l)
def Ft (cl:List (List Int)) (w:List Bool):Bool:=cl.all fun c=>c.any (dW w)
def aq (G:List Int) (x:Int):Nat:=G.findIdx (fun y=>decide (y=x))
theorem cL {G:List Int} {x:Int} (h:x∈G):aq G x<G.length:=by
 unfold aq
 rw[List.findIdx_lt_length]
 exact⟨x,h,by simp⟩
def vE (gs:List dw) (n:Int) (G:List Int) (x:Int):Int:=if x∈G then n+1+(aq G x:Nat) else (oY gs x.toNat).a
def y_ (gs:List dw) (n:Int) (G:List Int) (r:Int):Int:=if r % 2=1 then -(vE gs n G (r / 2)) else vE gs n G (r / 2)
structure AI (gs:List dw) (G:List Int) (x:Int):Prop where
 lo:2≤x
 hi:x<2*(gs.length:Int)
 and:(oY gs (x / 2).toNat).k=2→x / 2∈G
theorem BY {gs:List dw} {n:Int} {G:List Int} {x:Int} (h:x∈G):vE gs n G x=n+1+(aq G x:Nat):=if_pos h
theorem BH.own {gs:List dw} {r:Int} {G:List Int} (h:BH gs r G) {x:Int} (hx:x∈G) (hc:lL gs):AI gs G (2*x):=by
 obtain⟨h0,_,hk⟩:=h.and x hx
 obtain⟨h1,h2,h3,h4⟩:=hc.and hk
 have:=BF hk
 exact⟨by omega,by omega,fun _=>by rwa [show 2*x / 2=x by omega]⟩
theorem AI.var {gs:List dw} (hc:lL gs) {G:List Int} {x:Int} (h:AI gs G x) {n:Int} (hn:8≤n):1≤vE gs n G (x / 2)∧vE gs n G (x / 2)≤n+(G.length:Nat):=by
 unfold vE
 by_cases hx:x / 2∈G
 ·rw[if_pos hx]
  have:=cL hx
  omega
 ·rw[if_neg hx]
  have h1:=h.lo
  have h2:=h.hi
  rcases hc.kind (i:=(x / 2).toNat) (by omega) (by omega) with h3|h3
  ·omega
  ·exact absurd (h.and h3) hx
theorem AI.lit {gs:List dw} (hc:lL gs) {G:List Int} {x:Int} (h:AI gs G x) {n:Int} (hn:8≤n):y_ gs n G x≠0∧y_ gs n G x≤n+(G.length:Nat)∧ -(n+(G.length:Nat):Int)≤y_ gs n G x:=by
 have:=h.var hc hn
 unfold y_
 split<;>omega
theorem zV {w:List Bool} {l:Int} (h:l≠0):dW w (-l)=!(dW w l):=by
 unfold dW
 rw[show max (-l) (- -l)=max l (-l) by omega]
 by_cases h0:0<l
 ·rw[decide_eq_true h0,decide_eq_false (show ¬0< -l by omega)]
  cases w.getD (max l (-l) - 1).toNat false<;>rfl
 ·rw[decide_eq_false h0,decide_eq_true (show 0< -l by omega)]
  cases w.getD (max l (-l) - 1).toNat false<;>rfl
theorem AB {w:List Bool} {l:Int} (h:1≤l):dW w l=w.getD (l - 1).toNat false:=by
 unfold dW
 rw[show max l (-l)=l by omega,decide_eq_true (show 0<l by omega)]
 cases w.getD (l - 1).toNat false<;>rfl
def K7 (gs:List dw) (n:Nat) (G:List Int) (w:List Bool):Prop:=∀x∈G,w.getD (n+aq G x) false=sW gs (w.take n) x.toNat
theorem K7.lit {gs:List dw} (hc:lL gs) {n:Nat} {G:List Int} {w:List Bool} (hw:n≤w.length) (hn:8≤n) {x:Int} (h:AI gs G x) (hr:x / 2∈G→w.getD (n+aq G (x / 2)) false=sW gs (w.take n) (x / 2).toNat):dW w (y_ gs n G x)=Hn gs (w.take n) x:=by
 have hv:=h.var hc (n:=n) (by omega)
 have key:dW w (vE gs n G (x / 2))=sW gs (w.take n) (x / 2).toNat:=by
  rw[AB hv.1]
  by_cases hx:x / 2∈G
  ·rw[BY hx,← hr hx]
   congr 1
   omega
  ·have h1:=h.lo
   have h2:=h.hi
   rcases hc.kind (i:=(x / 2).toNat) (by omega) (by omega) with h3|h3
   ·rw[FH _ (show(x / 2).toNat<gs.length by omega) (by rw[← pG (by omega)];exact h3.1),ND,vE,if_neg hx,pG (by omega)]
    rw[pG (by omega)] at h3
    rw[List.getD_eq_getElem?_getD,List.getD_eq_getElem?_getD,List.getElem?_take,if_pos (by omega)]
   ·exact absurd (h.and h3) hx
 unfold y_ Hn
 by_cases h2:x % 2=1
 ·rw[if_pos h2,zV (by omega),key,decide_eq_false (show ¬x % 2=0 by omega)]
  cases sW gs (w.take n) (x / 2).toNat<;>rfl
 ·rw[if_neg h2,key,decide_eq_true (show x % 2=0 by omega)]
  cases sW gs (w.take n) (x / 2).toNat<;>rfl
end Go.Ab.N19
/- Chapter 19:the reference's circuits,walked. -/
namespace Go.Ab.N19
open Go Go.Proofs Go.Ab
open Nat (reduceAdd reduceSub)
set_option maxRecDepth 20000
set_option maxHeartbeats 4000000
attribute [local irreducible] AW aa bE aX AR bd aW bm bD
end Go.Ab.N19
/- slices' functions that take functions. -/
namespace Go.Ab.N19
open Go Go.Proofs Go.Ab
open Nat (reduceAdd reduceSub)
set_option maxRecDepth 20000
set_option maxHeartbeats 4000000
attribute [local irreducible] AW aa bE aX AR bd aW bm bD
def xo {α:Type} (p:α→Bool) (l:List α):Int:=if l.any p=true then (l.findIdx p:Nat) else -1
theorem Cf {α:Type} {p:α→Bool} {l:List α} {k:Nat} (hk:k<l.length) (h0:(l.take k).any p=false) (hp:p l[k]=true):xo p l=(k:Int):=by
 unfold xo
 rw[if_pos (List.any_eq_true.2 ⟨l[k],List.getElem_mem hk,hp⟩),List.findIdx_eq (by exact hk)|>.2 ⟨hp,fun j hj=>?_⟩]
 rw[List.any_eq_false] at h0
 simpa using h0 l[j] (List.mem_take_iff_getElem.2 ⟨j,by omega,rfl⟩)
theorem GI {α:Type} {p:α→Bool} {l:List α} (h0:l.any p=false):xo p l= -1:=by
 unfold xo
 rw[if_neg (by rw[h0];simp)]
theorem Fo {α:Type} (p:α→Bool) (l:List α):decide (0≤xo p l)=l.any p:=by
 unfold xo
 cases l.any p with
 |true=>simp
 |false=>simp
theorem r_ {α:Type} {p:α→Bool} {l:List α} {k:Nat} (hk:k<l.length):(l.take (k+1)).any p=((l.take k).any p||p l[k]):=by
 rw[aR hk,List.any_append];simp
abbrev vF (fx:FuncId) (vs us:Array Value):Value:=.func (.func fx) vs us
abbrev uB {α:Type} (p:α→Bool) (x:α):AV:=aF (p x)
theorem Ae (l:List Int) (p:Int→Bool) (fx:FuncId) (vs us:Array Value):wc (qC Tryz.prog (vF fx vs us) al (uB p) l) Tryz.prog 78 [.pv (ints l),.pv (.lit (vF fx vs us))] (al (xo p l)):=by
 have xh:=qC.stay (P:=Tryz.prog) (vF fx vs us) al (uB p) l
 refine wc.enter xh (n:=19) Tryz.func78 rfl rfl rfl rfl rfl (by decide) fun g aU aT hT=>?_;(try refine nz ?_)
 refine AW.cF 0 rfl fun hlen=>?_
 (refine j9 ?_;refine l8 ?_)
 (refine nz ?_;apply AW.bM [7,0,1] [] (fun k:Nat=>([(8,al k)]:List (Nat×AV))) (fun k:Nat=>([]:List (Nat×Option Ob))) (fun k:Nat=>k≤l.length∧(l.take k).any p=false) (fun k:Nat=>l.length - k) (0);(conv=>lhs;simp only[Nf.gQ,Nf.all,Nat.reduceBEq,reduceAdd,reduceSub]);(all_goals skip))
 ·exact⟨Nat.zero_le _,rfl⟩
 ·exact Hv
 rintro k ⟨hk,ew⟩
 by_cases aM:k<l.length
 ·have hs:=r_ (p:=p) aM
  rw[ew,Bool.false_or] at hs
  cases hp:p l[k] with
  |true=>
   have hw:TB (fun w=>uT Tryz.prog (vF fx vs us) w (al l[k]) (aF true)) g:=hp▸hT.QH (List.getElem_mem aM)
   rw[Cf aM ew hp]
   (refine fB ?_;refine oq ?_;(iterate 3 refine zm ?_);(focus ((with_reducible apply aa.aj);(iterate 7 exact rfl);rotate_left;omega));refine zr ?_;(with_reducible apply aa.Hm (hT:=hw));(iterate 3 exact rfl);(first|exact .le (.pv _)|exact .box rfl rfl|exact .le (.own _ _ _ _ rfl)|exact .le (.nil _)|exact .le (.any _)|exact .le (.rptr _)|(refine .le (.mb ?_);repeat (first|exact .nil|(refine .cons ?_ ?_;(first|exact .pv _|exact .own _ _ _ _ rfl|exact .nil _)))));exact rfl;exact rfl;exact(fun h_=>by cases h_);refine e6 ?_;refine zm ?_;refine kf ?_)
   (apply ax;(exact bA.one (.tmp rfl rfl));(refine Le.al ?_;(rfl)))
  |false=>
   have hw:TB (fun w=>uT Tryz.prog (vF fx vs us) w (al l[k]) (aF false)) g:=hp▸hT.QH (List.getElem_mem aM)
   rw[hp] at hs
   (refine fB ?_;refine oq ?_;(iterate 3 refine zm ?_);(focus ((with_reducible apply aa.aj);(iterate 7 exact rfl);rotate_left;omega));refine zr ?_;(with_reducible apply aa.Hm (hT:=hw));(iterate 3 exact rfl);(first|exact .le (.pv _)|exact .box rfl rfl|exact .le (.own _ _ _ _ rfl)|exact .le (.nil _)|exact .le (.any _)|exact .le (.rptr _)|(refine .le (.mb ?_);repeat (first|exact .nil|(refine .cons ?_ ?_;(first|exact .pv _|exact .own _ _ _ _ rfl|exact .nil _)))));exact rfl;exact rfl;exact(fun h_=>by cases h_);refine kg ?_;refine tC ?_)
   exact⟨k+1,⟨by omega,hs⟩,by omega,aO rfl (by(refine⟨.eq rfl rfl,?_⟩;(iterate 3 refine⟨.eq rfl rfl,?_⟩);exact trivial)) (by(exact trivial)) rfl⟩
 ·rw[bK (l:=l) (by omega)] at ew
  rw[GI ew]
  (refine kO ?_;refine fL ?_)
  (apply ax;(exact bA.one (.tmp rfl rfl));(refine Le.al ?_;(rfl)))
theorem CM (l:List Int) (p:Int→Bool) (fx:FuncId) (vs us:Array Value):wc (qC Tryz.prog (vF fx vs us) al (uB p) l) Tryz.prog 39 [.pv (ints l),.pv (.lit (vF fx vs us))] (aF (l.any p)):=by
 have xh:=qC.stay (P:=Tryz.prog) (vF fx vs us) al (uB p) l
 have hi:=Ae l p fx vs us
 rw[← Fo]
 refine wc.enter xh (n:=9) Tryz.func39 rfl rfl rfl rfl rfl (by decide) fun g aU aT hT=>?_;(try refine nz ?_)
 (refine l7 ?_;(iterate 2 refine zm ?_);(with_reducible apply aa.L8 (hf:=hi));(first|(with_reducible assumption)|(refine TB.gs ?_ (by with_reducible assumption);with_reducible assumption)|(refine TB.gi ?_ (by with_reducible assumption);with_reducible assumption)|exact TB.none _);(repeat (first|exact .nil|(refine .cons rfl ?_ ?_;(first|exact .pv _|exact .own _ _ _ _ rfl|exact .nil _|exact .any _|exact .rptr _|(refine .mb ?_;repeat (first|exact .nil|(refine .cons ?_ ?_;(first|exact .pv _|exact .own _ _ _ _ rfl|exact .nil _))))))));exact rfl;exact rfl;exact(fun h_=>by cases h_);refine aa.geq rfl rfl rfl rfl rfl ?_;refine fL ?_)
 (apply ax;(exact bA.one (.tmp rfl rfl));(refine Le.aF ?_;(rfl)))
end Go.Ab.N19
/- Chapter 19:formulas:valid,satisfied. -/
namespace Go.Ab.N19
open Go Go.Proofs Go.Ab
set_option maxRecDepth 20000
set_option maxHeartbeats 4000000
attribute [local irreducible] AW aa bE aX AR bd aW bm bD
abbrev w6 (vars:Int) (cl:List (List Int)):AV:=.agg [al vars,.pv (cV cl)]
def Im (vars x:Int):Bool:=decide (x≠0∧x≤vars∧0 - vars≤x)
def ay (vars:Int) (l:List Int):Bool:=l.all (Im vars)
def jv (vars:Int) (cl:List (List Int)):Bool:=decide (0≤vars∧vars≤20000∧(cl.length:Int)≤60000) && cl.all (ay vars)
theorem vS {α:Type} (p:α→Bool) (l:List α):(!(l.any fun x=>!p x))=l.all p:=by rw[List.all_eq_not_any_not]
end Go.Ab.N19
/- Chapter 19:formulas:satisfied;the reference's comparisons. -/
namespace Go.Ab.N19
open Go Go.Proofs Go.Ab
open Nat (reduceAdd reduceSub)
set_option maxRecDepth 20000
set_option maxHeartbeats 4000000
attribute [local irreducible] AW aa bE aX AR bd aW bm bD
def I2 (l:Int):Prop:=l≠0∧ -1000000≤l∧l≤1000000
theorem EG {α:Type} {l:List α} {i:Nat} {d:α} (h:i<l.length):l.getD i d=l[i]:=by rw[List.getD_eq_getElem?_getD,List.getElem?_eq_getElem h];rfl
theorem Cl {α:Type} {l:List α} {i:Nat} {d:α} (h:l.length≤i):l.getD i d=d:=by rw[List.getD_eq_getElem?_getD,List.getElem?_eq_none h];rfl
theorem qV (a b:Bool):(a==b)=decide (a=b):=by cases a<;>cases b<;>rfl
theorem BX (w:List Bool) (l:Int) (hl:I2 l) (hw:w.length≤100000):Fn Tryz.prog 36 [al l,.rptr [jj w]] (aF (dW w l)):=by
 obtain⟨h0,h1,h2⟩:=hl
 unfold dW
 have hm1:1≤max l (-l):=by omega
 have hm2:max l (-l)≤1000000:=by omega
 have e:max l (-l)=max l (0 - l):=by omega
 by_cases hle:max l (-l)≤(w.length:Int)
 ·rw[EG (show(max l (-l) - 1).toNat<w.length by omega),qV]
  refine Fn.enter (n:=25) Tryz.func36 rfl rfl rfl rfl rfl (by decide) fun g aU aT=>?_;(try refine nz ?_)
  (refine Kt ?_;refine zt ?_;refine zr ?_;refine j8 ?_;refine Eg ?_;(focus ((with_reducible apply aa.bs);(iterate 7 exact rfl);omega;rotate_left;(first|omega|exact Nat.zero_lt_one|(simp;done))));refine zt ?_;refine zr ?_;refine zT ?_;refine zm ?_;refine aa.Mw rfl rfl rfl rfl rfl rfl ?_;refine fL ?_)
  (apply ax;(exact bA.one (.tmp rfl rfl));(refine Le.aF ?_;(first|rfl)))
 ·rw[Cl (show w.length≤(max l (-l) - 1).toNat by omega),qV]
  refine Fn.enter (n:=25) Tryz.func36 rfl rfl rfl rfl rfl (by decide) fun g aU aT=>?_;(try refine nz ?_)
  (refine Kt ?_;(iterate 5 refine aa.gG rfl rfl rfl rfl rfl rfl (by with_reducible assumption) ?_);refine zF ?_;refine zm ?_;refine aa.Mw rfl rfl rfl rfl rfl rfl ?_;refine fL ?_)
  (apply ax;(exact bA.one (.tmp rfl rfl));(refine Le.aF ?_;(first|rfl)))
theorem Ig (vars:Int) (cl:List (List Int)) (w:List Bool) (dq:∀c∈cl,∀l∈c,I2 l) (hw:w.length≤100000):Fn Tryz.prog 12 [w6 vars cl,.pv (jj w)] (aF (Ft cl w)):=by
 unfold Ft
 refine Fn.enter (n:=11) Tryz.func12 rfl rfl rfl rfl rfl (by decide) fun g aU aT=>?_;(try refine nz ?_)
 refine AW.mr 0 1 rfl rfl fun hlen=>?_
 (refine C0 ?_;refine nz ?_;refine aa.box rfl rfl rfl rfl ?_;refine nz ?_;refine oq ?_;refine aa.dT rfl rfl rfl ?_;refine pE ?_;refine Bs ?_;refine mN ?_;refine rh ?_;refine aa.dT rfl rfl rfl ?_;(with_reducible apply aa.inline (hf:=Tryz.func37));(with_reducible assumption);(iterate 10 exact rfl);intro g_ aU aT;refine nz ?_;refine Er ?_;refine nV ?_;refine aa.dT rfl rfl rfl ?_;(with_reducible apply aa.inline (hf:=Tryz.func74));(with_reducible assumption);(iterate 10 exact rfl);intro g_ aU aT;refine mR ?_;refine aa.dM rfl rfl rfl ?_;(with_reducible apply aa.inline (hf:=Tryz.func97));(with_reducible assumption);(iterate 10 exact rfl);intro g_ aU aT;refine Ba ?_)
 (refine nz ?_;apply AW.bM [7,0,1,1006,1005,1004,1000,1001,2006,2005,2004,2003,2000,2001,3009,3008,3007,3005,3004,3002] [3,2,1,0] (fun k:Nat=>([(8,al k)]:List (Nat×AV))) (fun k:Nat=>([]:List (Nat×Option Ob))) (fun k:Nat=>k≤cl.length∧(cl.take k).any (fun c=>!(c.any (dW w)))=false) (fun k:Nat=>cl.length - k) (0);(conv=>lhs;simp only[Nf.gQ,Nf.all,Nat.reduceBEq,reduceAdd,reduceSub]);(all_goals skip))
 ·exact⟨Nat.zero_le _,rfl⟩
 ·exact aO rfl (by(refine⟨.eq rfl rfl,?_⟩;(iterate 20 refine⟨.eq rfl rfl,?_⟩);exact trivial)) (by(refine⟨.box _ rfl ?_,?_⟩;refine⟨.eq rfl rfl,?_⟩;exact trivial;refine⟨.box _ rfl ?_,?_⟩;refine⟨.eq rfl rfl,?_⟩;exact trivial;refine⟨.box _ rfl ?_,?_⟩;refine⟨.eq rfl rfl,?_⟩;exact trivial;refine⟨.box _ rfl ?_,?_⟩;(iterate 2 refine⟨.eq rfl rfl,?_⟩);(iterate 2 exact trivial))) rfl
 rintro k ⟨hk,ew⟩
 by_cases aM:k<cl.length
 ·have ki:=r_ (p:=fun c=>!(c.any (dW w))) aM
  rw[ew,Bool.false_or] at ki
  have hf:=CM cl[k] (dW w)
  have y6:∀x∈cl[k],wc (fun _=>True) Tryz.prog 36 [al x,.rptr [jj w]] (uB (dW w) x):=fun x hx=>(BX w x (dq _ (List.getElem_mem aM) x hx) hw).Sc
  cases hb:cl[k].any (dW w) with
  |true=>
   rw[hb] at ki hf
   (refine qW ?_;(focus ((with_reducible apply aa.aj);(iterate 7 exact rfl);rotate_left;omega));refine zr ?_;(with_reducible apply aa.inline (hf:=Tryz.func77));(with_reducible assumption);(iterate 10 exact rfl);intro g_ aU aT;refine nz ?_;refine l7 ?_;refine dX ?_;(with_reducible apply aa.inline (hf:=Tryz.func38));(with_reducible assumption);(iterate 10 exact rfl);intro g_ aU aT;refine mR ?_;refine zb ?_;(with_reducible apply aa.Cy (hf:=hf) (hc:=y6) (hen:=enters_of Tryz.func36 rfl (by decide)));(first|(with_reducible assumption)|(refine TB.gs ?_ (by with_reducible assumption);with_reducible assumption)|(refine TB.gi ?_ (by with_reducible assumption);with_reducible assumption)|exact TB.none _);(intro SU RW QW;(repeat (first|exact .nil|apply hZ.here|(apply hZ.cons rfl;(first|exact .le (.pv _)|exact .box rfl rfl|exact .le (.own _ _ _ _ rfl)|exact .le (.nil _)|exact .le (.any _)|exact .le (.rptr _)|(refine .le (.mb ?_);repeat (first|exact .nil|(refine .cons ?_ ?_;(first|exact .pv _|exact .own _ _ _ _ rfl|exact .nil _)))))))));exact rfl;exact rfl;(repeat (first|exact .nil|(refine .cons ?_ ?_;(first|exact .le (.pv _)|exact .box rfl rfl|exact .le (.own _ _ _ _ rfl)|exact .le (.nil _)|exact .le (.any _)|exact .le (.rptr _)|(refine .le (.mb ?_);repeat (first|exact .nil|(refine .cons ?_ ?_;(first|exact .pv _|exact .own _ _ _ _ rfl|exact .nil _))))))));exact(fun _=>rfl);exact rfl;exact rfl;exact(fun h_=>by cases h_);refine iq ?_;refine aa.not rfl rfl rfl ?_;refine iq ?_;refine kg ?_;refine jB ?_)
   exact⟨k+1,⟨by omega,ki⟩,by omega,aO rfl (by(refine⟨.eq rfl rfl,?_⟩;(iterate 20 refine⟨.eq rfl rfl,?_⟩);exact trivial)) (by(refine⟨.box _ rfl ?_,?_⟩;refine⟨.eq rfl rfl,?_⟩;exact trivial;refine⟨.box _ rfl ?_,?_⟩;refine⟨.eq rfl rfl,?_⟩;exact trivial;refine⟨.box _ rfl ?_,?_⟩;refine⟨.eq rfl rfl,?_⟩;exact trivial;refine⟨.box _ rfl ?_,?_⟩;(iterate 2 refine⟨.eq rfl rfl,?_⟩);(iterate 2 exact trivial))) rfl⟩
  |false=>
   rw[hb] at hf
   have dV:(cl.all fun c=>c.any (dW w))=false:=by rw[List.all_eq_false];exact⟨cl[k],List.getElem_mem aM,by rw[hb];simp⟩
   rw[dV]
   (refine qW ?_;(focus ((with_reducible apply aa.aj);(iterate 7 exact rfl);rotate_left;omega));refine zr ?_;(with_reducible apply aa.inline (hf:=Tryz.func77));(with_reducible assumption);(iterate 10 exact rfl);intro g_ aU aT;refine nz ?_;refine l7 ?_;refine dX ?_;(with_reducible apply aa.inline (hf:=Tryz.func38));(with_reducible assumption);(iterate 10 exact rfl);intro g_ aU aT;refine mR ?_;refine zb ?_;(with_reducible apply aa.Cy (hf:=hf) (hc:=y6) (hen:=enters_of Tryz.func36 rfl (by decide)));(first|(with_reducible assumption)|(refine TB.gs ?_ (by with_reducible assumption);with_reducible assumption)|(refine TB.gi ?_ (by with_reducible assumption);with_reducible assumption)|exact TB.none _);(intro SU RW QW;(repeat (first|exact .nil|apply hZ.here|(apply hZ.cons rfl;(first|exact .le (.pv _)|exact .box rfl rfl|exact .le (.own _ _ _ _ rfl)|exact .le (.nil _)|exact .le (.any _)|exact .le (.rptr _)|(refine .le (.mb ?_);repeat (first|exact .nil|(refine .cons ?_ ?_;(first|exact .pv _|exact .own _ _ _ _ rfl|exact .nil _)))))))));exact rfl;exact rfl;(repeat (first|exact .nil|(refine .cons ?_ ?_;(first|exact .le (.pv _)|exact .box rfl rfl|exact .le (.own _ _ _ _ rfl)|exact .le (.nil _)|exact .le (.any _)|exact .le (.rptr _)|(refine .le (.mb ?_);repeat (first|exact .nil|(refine .cons ?_ ?_;(first|exact .pv _|exact .own _ _ _ _ rfl|exact .nil _))))))));exact(fun _=>rfl);exact rfl;exact rfl;exact(fun h_=>by cases h_);refine iq ?_;refine aa.not rfl rfl rfl ?_;refine iq ?_;refine Ak ?_;refine iq ?_;refine fL ?_)
   (apply ax;(exact bA.one (.tmp rfl rfl));(refine Le.aF ?_;(rfl)))
 ·rw[bK (l:=cl) (by omega)] at ew
  have dV:(cl.all fun c=>c.any (dW w))=true:=by rw[← vS,ew];rfl
  rw[dV]
  (refine kO ?_;refine Ep ?_;refine JS ?_;refine iq ?_;refine fL ?_)
  (apply ax;(exact bA.one (.tmp rfl rfl));(refine Le.aF ?_;(rfl)))
theorem uA {α:Type} {p:α→Bool} {l:List α} {k:Nat} (hk:k<l.length) (h:(l.take k).all p=true) (h':p l[k]=true):(l.take (k+1)).all p=true:=by
 rw[aR hk,List.all_append,h];simp [h']
end Go.Ab.N19
/- The laws through the layers:the solver is certified. -/
namespace Go.Ab
open Go Go.Proofs
set_option maxRecDepth 20000
set_option maxHeartbeats 8000000
theorem holds_of {w:List Bool} {x:Int} (h:dg w x=true):N19.dW w x=true:=by
 unfold dg at h
 unfold N19.dW
 by_cases h1:0<x
 ·rw[if_pos h1] at h
  rw[show max x (-x)=x by omega,h,decide_eq_true h1];rfl
 ·rw[if_neg h1] at h
  by_cases h2:x<0
  ·rw[if_pos h2,show 0 - x - 1= -x - 1 by omega] at h
   rw[show max x (-x)= -x by omega,decide_eq_false h1]
   revert h
   cases w.getD (-x - 1).toNat false<;>simp
  ·rw[if_neg h2] at h;cases h
theorem I_ {w:List Bool} {cl:List (List Int)} (h:allM w cl=true):N19.Ft cl w=true:=by
 unfold N19.Ft
 unfold allM at h
 rw[List.all_eq_true] at h ⊢
 intro c hc
 have h1:=h c hc
 unfold cQ at h1
 rw[List.any_eq_true] at h1 ⊢
 obtain⟨x,hx,ht⟩:=h1
 exact⟨x,hx,holds_of ht⟩
theorem Gk {n:Nat} {x:Int} (hn:n≤20000) (h:Lit n x):N19.I2 x:=⟨h.1,by have:=h.2.1;have:=h.2.2;omega,by have:=h.2.1;have:=h.2.2;omega⟩
theorem F2 {P P0:List (List Int)} {c:List Int} (h:P=P0++ [c]) (h2:((P.length:Int) - 1).toNat<P.length):P[((P.length:Int) - 1).toNat]=c:=by
 subst h
 have e:(((P0++ [c]).length:Int) - 1).toNat=P0.length:=by rw[List.length_append];simp
 simp only[e]
 simp
theorem D_ (l:List Int):(l.map fun y=> -y)=l.map fun x=>0 - x:=List.map_congr_left fun x _=>by omega
attribute [local irreducible] AW aa bE aX AR bd aW bm bD canon hU eI iX kb gE ay df cr dc cC gy cq
theorem xC (v:Int) (cl:List (List Int)) (a:List Int):Fn Tryz.prog 3 [w6 v cl,.pv (ints a)] (aF true):=by
 have hh:=Dd
 have hs:=zf v cl
 cases e1:gy v cl with
 |false=>
  rw[e1] at hs
  have hw1:=trivial
  refine Fn.enter (n:=128) Tryz.func3 rfl rfl rfl rfl rfl (by decide) fun g aU aT=>?_;(try refine nz ?_)
  (refine Er ?_;refine d_ ?_;refine zA (hh) ?_;refine kh ?_;refine d_ ?_;refine zL ?_;refine nz ?_;refine zA (hs) ?_;refine aa.not rfl rfl rfl ?_;refine zm ?_;refine wW ?_;refine zm ?_;refine EW ?_;refine e6 ?_;refine zm ?_;refine iM ?_)
  (apply ax;(exact bA.one (.tmp rfl rfl));(refine Le.aF ?_;(rfl)))
 |true=>
 rw[e1] at hs
 obtain⟨hv,Qr,Dk⟩:=tQ e1
 have hw1:=oC v a (by omega)
 by_cases ha:a.length≤12
 ·cases e2:ay v a with
  |false=>
   rw[e2] at hw1
   refine Fn.enter (n:=128) Tryz.func3 rfl rfl rfl rfl rfl (by decide) fun g aU aT=>?_;(try refine nz ?_)
   (refine Jv ?_;refine zm ?_;refine C8 ?_;refine zy ?_;refine iP ?_;refine zA (hw1) ?_;refine Aq ?_;refine e6 ?_;refine zm ?_;refine iM ?_)
   (apply ax;(exact bA.one (.tmp rfl rfl));(refine Le.aF ?_;(rfl)))
  |true=>
  rw[e2] at hw1
  obtain⟨n,rfl⟩:∃n:Nat,v=n:=⟨v.toNat,by omega⟩
  have hn8:n≤8:=by omega
  have GR:∀c∈cl,c.length≤1000000∧∀x∈c,Lit n x:=fun c hc=>⟨by have:=(Dk c hc).2;omega,fun x hx=>by have:=aY (Dk c hc).1 x hx;exact⟨this.1,by omega,by omega⟩⟩
  have IL:∀x∈a,Lit n x:=fun x hx=>by have:=aY e2 x hx;exact⟨this.1,by omega,by omega⟩
  have h1:=n6 n cl a (by omega) (by omega) GR IL (by omega)
  obtain⟨i,hi,nt,kT⟩:=qU (jX n cl a) (2 ^ n)
  have hle:=E8 n cl a hn8 (fun c hc=>(Dk c hc).1) e2 i hi nt kT
  have KZ:2 ^ n≤2 ^ 8:=Nat.pow_le_pow_right (by omega) hn8
  have hp8:(2:Nat) ^ 8=256:=by decide
  refine Fn.enter (n:=128) Tryz.func3 rfl rfl rfl rfl rfl (by decide) fun g aU aT=>?_;(try refine nz ?_)
  (refine Jv ?_;refine zm ?_;refine C8 ?_;refine zy ?_;refine iP ?_;refine zA (hw1) ?_;refine Aq ?_;refine qJ ?_;refine d_ ?_;refine zL ?_;refine nz ?_;refine zm ?_;(with_reducible apply aa.eH (hf:=h1));(with_reducible assumption);(iterate 3 exact rfl);(repeat (first|exact trivial|refine⟨rfl,?_⟩));(repeat (first|exact .nil|(refine .cons ?_ ?_;(first|exact .eq rfl rfl|exact .nil _|exact .any _))));(intro x_;exact rfl);exact rfl;(repeat (first|exact trivial|refine⟨rfl,?_⟩|refine⟨aN,?_⟩));(intro x_;(repeat (first|exact trivial|refine⟨rfl,?_⟩|refine⟨aN,?_⟩)));(intro x_;exact rfl);exact rfl;(intro x_ kH);refine Q1 ?_;refine nz ?_;refine Is ?_;refine zd ?_;refine AW.gf 5 ?_)
  obtain⟨k1,vals,core,P⟩:=x_
  have hs1:=kH
  simp only at hs1 ⊢
  refine Stop.go ?_
  have cZ:Ei n cl [] (cI P):=hs1.P3 hn8 (fun c hc=>⟨(Dk c hc).1,by have:=(Dk c hc).2;omega⟩) (by omega)
  have aV:=hs1.run (e:=⟨n,cl,[]⟩)
  have hP20:P.length≤20000:=hs1.plen
  have hPl:=hs1.GN
  have hPlit:=hs1.Nd
  simp only at aV hPl hPlit
  have G6:(cI P).length=P.length:=by unfold cI;rw[List.length_map]
  have de:steps (cI P)=PV.slice 3 (P.map j6):=by rw[sb]
  have y6:Fn Tryz.prog 10 [w6 (n:Nat) cl,.pv (cV []),.pv (steps (cI P))] (.tup [al (P.length:Nat),al 0]):=by
   have h:=Dh n cl [] (cI P) cZ
   rw[aV.1,G6,yM,if_neg (Nat.lt_irrefl _)] at h
   exact h
  have LC:Fn Tryz.prog 11 [al (n:Nat),.pv (steps (cI P))] (aF true):=zu n (cI P) (by omega) (by omega) fun t ht=>by
   unfold cI at ht
   obtain⟨c,hc,rfl⟩:=List.mem_map.1 ht
   exact⟨rfl,rfl,jz (hPlit c hc),by have:=hPl c hc;show c.length≤1000;omega⟩
  have Bv:Fn Tryz.prog 15 [w6 (n:Nat) cl,.pv (cV []),.pv (steps (cI P))] (aF (nQ n cl [] (cI P))):=qa n cl [] (cI P) cZ
  by_cases aM:i<2 ^ n
  ·rw[if_pos aM] at hle
   have PK:=hs1.least hn8 IL (kT aM) nt
   obtain⟨ek,ev⟩:=PK
   simp only at ek ev
   subst ek
   obtain⟨q1,q2⟩:=hs1.DF rfl
   simp only at q1 q2
   subst ev
   rw[Gf cZ q1 q2,de] at Bv
   rw[de] at y6 LC
   have q_:=eM n i
   have hb:=yh n i (by omega) (by omega)
   have xS:=C_ (cq n i) (by omega)
   have QJ:=N19.Ig n cl (cq n i) (fun c hc x hx=>Gk (by omega) ((GR c hc).2 x hx)) (by omega)
   rw[I_ q2] at QJ
   (refine Qq ?_;refine e6 ?_;(iterate 2 refine zm ?_);refine zl ?_;refine jY ?_;refine aa.eql rfl rfl rfl rfl rfl ?_;refine aa.bL rfl rfl rfl rfl rfl rfl ?_;refine jY ?_;refine zL ?_;refine nz ?_;refine zl ?_;refine jY ?_;refine zA (QJ) ?_;refine aa.bL rfl rfl rfl rfl rfl rfl ?_;refine l9 ?_;refine aa.ah 24 0 0 rfl rfl rfl rfl ?_;refine zl ?_;refine zb ?_;refine zl ?_;refine jY ?_;refine zP (hb) ?_;refine zl ?_;refine zA (xS) ?_;refine aa.bL rfl rfl rfl rfl rfl rfl ?_;refine jY ?_;refine zL ?_;refine nz ?_;refine zl ?_;refine jY ?_;refine zA (Bv) ?_;refine zl ?_;refine aa.not rfl rfl rfl ?_;refine aa.bL rfl rfl rfl rfl rfl rfl ?_;refine iM ?_)
   (apply ax;(exact bA.one (.tmp rfl rfl));(refine Le.aF ?_;(rfl)))
  ·rw[if_neg aM] at hle
   have ek:=hs1.EL hn8 IL (fun j hj=>nt j (by omega))
   simp only at ek
   subst ek
   obtain⟨P0,eP,hcA,hcL,dq⟩:=hs1.core rfl
   simp only at eP hcA hcL dq
   have hPpos:0<P.length:=by rw[eP];simp
   have SL:((P.length:Int) - 1).toNat<P.length:=by omega
   have tu:=F2 eP SL
   rw[de] at y6 LC Bv
   have Sq:=Ce core (fun x hx=>by obtain⟨_,_,_⟩:=hcL x hx;omega) (by omega)
   have Ht:Fn Tryz.prog 17 [.pv (ints P[((P.length:Int) - 1).toNat]),.pv (ints (core.map fun x=>0 - x))] (aF true):=by
    rw[tu,D_];exact D6 _
   have F8:=H_ core a hcA
   by_cases ha0:a.length=0
   ·have K9:=hs1.nQ rfl (List.eq_nil_of_length_eq_zero ha0)
    simp only at K9
    rw[K9] at Bv
    (refine Iz ?_;(focus ((with_reducible apply aa.bs);(iterate 7 exact rfl);omega;rotate_left;(first|omega|exact Nat.zero_lt_one|(simp;done))));refine aa.gN 44 1 1 1 rfl rfl rfl rfl ?_;refine nz ?_;refine zr ?_;refine oq ?_;refine zL ?_;refine nz ?_;refine zm ?_;refine KM ?_;refine iP ?_;refine jY ?_;refine zF ?_;refine aa.bL rfl rfl rfl rfl rfl rfl ?_;refine fL ?_)
    (apply ax;(exact bA.one (.tmp rfl rfl));(refine Le.aF ?_;(rfl)))
   ·cases K9:nQ n cl [] (cI P) with
    |true=>
     rw[K9] at Bv
     (refine Iz ?_;(focus ((with_reducible apply aa.bs);(iterate 7 exact rfl);omega;rotate_left;(first|omega|exact Nat.zero_lt_one|(simp;done))));refine Kz ?_)
     (apply ax;(exact bA.one (.tmp rfl rfl));(refine Le.aF ?_;(rfl)))
    |false=>
     rw[K9] at Bv
     (refine Iz ?_;(focus ((with_reducible apply aa.bs);(iterate 7 exact rfl);omega;rotate_left;(first|omega|exact Nat.zero_lt_one|(simp;done))));refine Kz ?_)
     (apply ax;(exact bA.one (.tmp rfl rfl));(refine Le.aF ?_;(rfl)))
 ·refine Fn.enter (n:=128) Tryz.func3 rfl rfl rfl rfl rfl (by decide) fun g aU aT=>?_;(try refine nz ?_)
  (refine Jv ?_;refine zm ?_;(iterate 5 refine aa.db rfl rfl rfl rfl rfl rfl (by first|omega|decide) ?_);refine zT ?_;refine e6 ?_;refine zm ?_;refine iM ?_)
  (apply ax;(exact bA.one (.tmp rfl rfl));(refine Le.aF ?_;(rfl)))
end Go.Ab
namespace Go.Proofs.YtigjjjpcjnifhaaGreat.Law1
open Go Go.Ab Go.ChangeShapes Go.WideShapes Go.ChangeAt Go.RowKit
set_option linter.unusedVariables false
theorem own:ownKnob Tryz.prog.godebug=none:=by kernel_rfl
theorem laidOut:laidOutB Tryz.prog=true:=by kernel_rfl
theorem Ch:Rd Tryz.prog 25 (fun l:List Int=>[ints l]) (fun _=>True):=
 Rd.map (Rd.slice (e:=3) (k:=1) (by':=8) Tryz.underlying25 (by kernel_rfl) (by decide) (by kernel_rfl) (by decide) (fun _=>rfl) (Rd.int Tryz.underlying3)) id (fun _=>rfl) (fun _ _=>trivial)
theorem GH:Rd Tryz.prog 22 (fun l:List (List Int)=>[cV l]) (fun l=>l.length*24≤reachBytes):=
 Rd.map (Rd.slice (e:=25) (k:=1) (by':=24) Tryz.underlying22 (by kernel_rfl) (by decide) (by kernel_rfl) (by decide) (fun _=>rfl) Ch) id (fun _=>rfl) (fun _ h=>h.1)
theorem Lg:Rd Tryz.prog 24 (fun p:Int×List (List Int)=>[.lit (.int .i64 p.1),cV p.2]) (fun _=>True):=
 Rd.map (Rd.struct (n:=2) Tryz.underlying24 (by kernel_rfl) (FI.cons (k:=1) (n:=1) rfl (by kernel_rfl) (Rd.int Tryz.underlying3) (FI.cons (k:=1) (n:=0) rfl (by kernel_rfl) GH FI.nil))) (fun p=>(p.1,p.2.1)) (fun _=>rfl) (fun _ _=>trivial)
theorem GM {N:Nat→Prop} {w:World} {v:Value} (h:RA (oO N) w v (aF true)):v=.bool true:=by
 cases h with
 |pv h=>cases h;rfl
set_option maxRecDepth 100000 in
theorem lifted (os:Os) (started:os.Started) (H:Type) (enc:TypeId×Value→H):
  ReturnsInHanded {} Tryz.checked os 3 .any (Rows.topSolverCertifiedSpec.pre6 enc Tryz.prog Tryz.f3 Rows.topSolverCertifiedRow.domain false) (Rows.topSolverCertifiedSpec.post enc Tryz.prog Tryz.f3 false true false false):=by
 refine returnsInHanded_of_change_sized (C:=Tryz.checked) own started (by kernel_rfl) Tryz.func3
  (ChangeSpec.witness6 (enc:=enc) (C:=Tryz.checked) false ⟨#[], #[.agg #[.int .i64 0,.slice none 0 0],.slice none 0 0],[]⟩ 8 (by kernel_rfl) (by kernel_rfl) (by kernel_rfl) (by kernel_rfl)) ?_
 intro W base args ds gs before Hb hW SS jm _
 have cW:∀(j:Nat) t v,Tryz.f3.params[j]? =some t→args[j]? =some v→Value.okWide Tryz.prog W .any base t v:=Hb
 have hW':=hW
 obtain⟨p,q,hA0,hV,rfl,Tq,dB⟩:=hW
 have hA:DataW.TrodAll enc Tryz.prog W 0 (fun _=>true) true Tryz.f3.params.toList args.toList ds p:=hA0
 rw[Tryz.params3] at hA cW
 obtain⟨v0,vs0,d0,ds0,p0,q0,bS,rfl,rfl,h0,r0⟩:=trodAll_cons hA
 obtain⟨v1,vs1,d1,ds1,p1,q1,rfl,rfl,rfl,h1,r1⟩:=trodAll_cons r0
 obtain⟨rfl,rfl,rfl⟩:=trodAll_nil r1
 obtain rfl:args= #[v0,v1]:=by cases args;simp_all
 obtain⟨rfl,rfl⟩:=trodVars_none hV
 have wt:∀(j:Nat) (t:TypeId) (d:DataW H),[24,25][j]? =some t→[d0,d1][j]? =some d→∀n∈d.weights Tryz.prog t,n≤reachBytes:=by
  intro j t d ht hd
  have hj:j<2:=(List.getElem?_eq_some_iff.1 ht).1
  refine vk jm (j:=j) ?_ ?_
  ·rw[List.getElem?_append_left (by rw[Tryz.params3];exact hj),Tryz.params3];exact ht
  ·rw[List.getElem?_append_left (by simpa using hj)];exact hd
 obtain⟨Qy,rfl⟩:=Ab.okWide_struct Tryz.underlying24 (cW 0 24 v0 rfl rfl)
 obtain⟨a1,l1,c1,rfl⟩:=okWide_slice Tryz.underlying25 (cW 1 25 v1 rfl rfl)
 obtain⟨⟨x0,y0⟩,s0,o0⟩:=E4 Lg h0 (wt 0 24 d0 rfl rfl) rfl
 obtain⟨x1,s1,o1⟩:=FP Ch h1 (wt 1 25 d1 rfl rfl) uv
 have lt0:∀x∈p0,x.block<W.heap.size:=by obtain⟨m,hm⟩:=h0;exact DataW.trod_lt m _ _ _ hm
 have lt1:∀x∈p1,x.block<W.heap.size:=by obtain⟨m,hm⟩:=h1;exact DataW.trod_lt m _ _ _ hm
 clear hA0 Hb
 refine((xC x0 y0 x1).calls (fun _=>True) W _ (fun _ _=>trivial) rfl ?_).mono fun e W' ⟨v,he,hv,bel⟩=>?_
 ·intro j v av hj uo
  match j,hj,uo with
  |0,hj,uo=>cases hj;cases uo;exact s0
  |1,hj,uo=>cases hj;cases uo;exact s1
  |j+2,hj,uo=>simp at uo
 ·obtain rfl:=GM hv
  subst he
  exact⟨_,rfl,_,_,_,[],_,[],hW',trodAll_mk1 (shut_bool Tryz.underlying4 _),(trodAll_cons_mk (Below.trod laidOut (by kernel_rfl) (of_decide_eq_true (by kernel_rfl)) h0 bel lt0) (trodAll_cons_mk (Below.trod laidOut (by kernel_rfl) (of_decide_eq_true (by kernel_rfl)) h1 bel lt1) trodAll_mk0)),rfl,bel.frame _,fun h=>by cases h⟩
theorem js:Rows.topSolverCertifiedRow.holds Tryz.pinned (OpenSpec.ofChange Rows.topSolverCertifiedSpec):=
 OpenClaim.holds_of_wide 3 Tryz.f3 rfl rfl rfl rfl rfl rfl rfl ⟨rfl,rfl,rfl,rfl,rfl⟩ rfl rfl rfl rfl rfl (by kernel_rfl) Tryz.func3 (by kernel_rfl)
  (of_decide_eq_true (by kernel_rfl)) (by unfold Func.isWrapper;first|(rw[if_pos (by decide+kernel)];kernel_rfl)|(rw[if_neg (by decide+kernel)];exact⟨rfl,rfl⟩))
  (fun os started H enc _=>lifted os started H enc)
theorem proved:Rows.TopSolverCertifiedSaid:=js
#print axioms proved
end Go.Proofs.YtigjjjpcjnifhaaGreat.Law1
