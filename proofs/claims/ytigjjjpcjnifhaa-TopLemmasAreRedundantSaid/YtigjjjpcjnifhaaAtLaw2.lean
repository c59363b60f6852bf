/- Adding the clauses that the solver has learned changes neither the outcome nor the least satisfying assignment, and each of them is implied by unit propagation. No conditions. -/
import Derived.Test.YtigjjjpcjnifhaaAtUB
import Derived.Test.YtigjjjpcjnifhaaAbZ
import Derived.Test.YtigjjjpcjnifhaaAbL3
import Derived.Test.YtigjjjpcjnifhaaAbL2
import Derived.Test.YtigjjjpcjnifhaaRows
import Derived.WalkKit
import Derived.ProofKit
import Derived.OpenShut
import Derived.ChangeOld
import Derived.Below
set_option linter.unusedSimpArgs false
set_option linter.unusedVariables false
namespace Go.Ab
open Go Go.Proofs
open Nat (reduceAdd reduceSub)
set_option maxRecDepth 20000
set_option maxHeartbeats 8000000
theorem Least.uniq {n:Nat} {F G:List (List Int)} {A L M:List Int} (h1:Least n F A L) (h2:Least n G A M) (hlit:∀x∈A,Lit n x) (hs:∀σ,SatF σ F↔SatF σ G):trlL n L=trlL n M:=by
 have key:∀v:Nat,1≤v→v≤n→trlA L v=trlA M v:=by
  intro v
  induction v using Nat.strongRecOn with
  |ind v ih=>
   intro q1 q2
   have e1:=fun h=>h1.min (trlA M) ((hs _).2 h2.sat) (fun x hx=>(trlA_lit h2.trl h2.full (hlit x hx)).2 (h2.asm x hx)) v q1 q2 (fun u p1 p2=>(ih u p2 p1 (by omega)).symm) h
   have e2:=fun h=>h2.min (trlA L) ((hs _).1 h1.sat) (fun x hx=>(trlA_lit h1.trl h1.full (hlit x hx)).2 (h1.asm x hx)) v q1 q2 (fun u p1 p2=>ih u p2 p1 (by omega)) h
   cases ha:trlA L v with
   |true=>rw[e1 ha]
   |false=>
    cases hb:trlA M v with
    |false=>rfl
    |true=>rw[e2 hb] at ha;cases ha
 unfold trlL
 apply List.map_congr_left
 intro i hi
 exact key (i+1) (by omega) (by have:=List.mem_range.1 hi;omega)
theorem SolvedOut.same {n:Nat} {F G:List (List Int)} {A:List Int} {q r:Int×List Bool×List Int×List (List Int)} (hq:SolvedOut n F A q) (hr:SolvedOut n G A r) (hn:n≤8) (hA:∀x∈A,Lit n x) (hs:∀σ,SatF σ F↔SatF σ G):q.1=r.1∧(q.1=1→q.2.1=r.2.1):=by
 have hiff:q.1=1↔r.1=1:=by
  rw[hq.iff hn hA,hr.iff hn hA]
  constructor
  ·rintro⟨v,p1,p2,p3⟩
   exact⟨v,p1,(asgL_sat hr.litF).1 ((hs _).1 ((asgL_sat hq.litF).2 p2)),p3⟩
  ·rintro⟨v,p1,p2,p3⟩
   exact⟨v,p1,(asgL_sat hq.litF).1 ((hs _).2 ((asgL_sat hr.litF).2 p2)),p3⟩
 have h1:=hq.one hn
 have h2:=hr.one hn
 refine⟨by omega,fun h=>?_⟩
 obtain⟨L,l1,l2,_⟩:=hq.sat h
 obtain⟨M,m1,m2,_⟩:=hr.sat (hiff.1 h)
 rw[l2,m2]
 exact l1.uniq m1 hA hs
theorem Chain.satT {F P:List (List Int)} (h:Chain F P) (h0:∀c∈F++P,∀x∈c,x≠0) (m:Nat) (σ:Nat→Bool):SatF σ F↔SatF σ (F++P.take m):=by
 constructor
 ·intro hs
  have:=h.sound hs h0
  intro c hc
  refine this c ?_
  rcases List.mem_append.1 hc with hc|hc
  ·exact List.mem_append.2 (.inl hc)
  ·exact List.mem_append.2 (.inr (List.mem_of_mem_take hc))
 ·intro hs c hc
  exact hs c (List.mem_append.2 (.inl hc))
theorem SolvedOut.plens {n:Nat} {F:List (List Int)} {A:List Int} {q:Int×List Bool×List Int×List (List Int)} (h:SolvedOut n F A q):∀c∈q.2.2.2,c.length≤2*n+2:=fun c hc=>by
 obtain⟨t,h1,_,_,e⟩:=h
 rw[e] at hc
 have:=nodup_leI (n:=2*n+2) (l:=c.map idxI) (by
  unfold List.Nodup
  rw[List.pairwise_map]
  exact(h1.nd c hc).imp_of_mem fun {a b} ha hb hab e=>hab (idxI_inj (h1.lits c (List.mem_append.2 (.inr hc)) a ha) (h1.lits c (List.mem_append.2 (.inr hc)) b hb) (by rw[e]))) fun v hv=>by
  obtain⟨a,ha,rfl⟩:=List.mem_map.1 hv
  have:=idxI_lt (h1.lits c (List.mem_append.2 (.inr hc)) a ha)
  omega
 simpa using this
theorem within_lit {n:Nat} {c:List Int} (h:∀x∈c,Lit n x):withinM n c=true:=by
 unfold withinM
 rw[List.all_eq_true]
 intro x hx
 obtain⟨_,_,_⟩:=h x hx
 simp only[decide_eq_true_eq]
 omega
attribute [local irreducible] AW AOps thenD inBlockD AR iterEnds roundEndsN inlEnds noGotoD canon sortL compL compZ metB imgL withinM symOk refImplM runC stepC smallT
theorem sameT_fn (a:List Bool) (ha:a.length≤1000000):Fn Try.prog 12 [.pv (bools a),.pv (bools a)] (litB true):=by
 refine Fn.enter (n:=26) Try.func12 rfl rfl rfl rfl rfl (by decide) fun g hro_ hwt_=>?_;(try refine nz ?_)
 refine AW.len_map 0 rfl fun hlen=>?_
 (refine Q319 ?_;refine Q116 ?_;refine zo ?_;refine Q52 ?_;refine Q271 ?_)
 (refine nz ?_;apply AW.loopR [0,1] [] (fun i:Nat=>([(5,litI i)]:List (Nat×AV))) (fun i:Nat=>([]:List (Nat×Option Ob))) (fun i:Nat=>i≤a.length) (fun i:Nat=>a.length - i) (0);(conv=>lhs;simp only[Nf.lpR,Nf.all,Nat.reduceBEq,reduceAdd,reduceSub]);(all_goals skip))
 ·exact Nat.zero_le _
 ·exact weak rfl (by(refine⟨.eq rfl rfl,?_⟩;(iterate 2 refine⟨.eq rfl rfl,?_⟩);exact trivial)) (by(exact trivial)) rfl
 rintro i hi
 by_cases hlt:i<a.length
 ·cases hc:a[i] with
  |true=>
   (refine Q111 ?_;refine zd ?_;refine Q5 ?_;refine zo ?_;(with_reducible apply AW.regionQ);exact rfl;exact rfl;kernel_rfl;(with_reducible assumption);(iterate 2 refine zm ?_);(focus ((with_reducible apply AOps.index_map);(iterate 7 exact rfl);rotate_left;omega));refine zr ?_;(iterate 2 refine zm ?_);(focus ((with_reducible apply AOps.index_map);(iterate 7 exact rfl);rotate_left;omega));refine zr ?_;refine AOps.neqB rfl rfl rfl rfl rfl rfl ?_;refine zd ?_;(focus ((with_reducible apply AW.condD);exact rfl;exact rfl;all_goals intro hc_));refine Q195 ?_;refine Q17 ?_;(all_goals skip);rotate_left;refine Q308 ?_;(all_goals skip);rotate_left)
   all_goals first|exact absurd rfl hc_|exact⟨i+1,by omega,by omega,weak rfl (by(refine⟨.eq rfl rfl,?_⟩;exact Q148)) (by(exact trivial)) rfl⟩
  |false=>
   (refine Q111 ?_;refine zd ?_;refine Q5 ?_;refine zo ?_;(with_reducible apply AW.regionQ);exact rfl;exact rfl;kernel_rfl;(with_reducible assumption);(iterate 2 refine zm ?_);(focus ((with_reducible apply AOps.index_map);(iterate 7 exact rfl);rotate_left;omega));refine zr ?_;(iterate 2 refine zm ?_);(focus ((with_reducible apply AOps.index_map);(iterate 7 exact rfl);rotate_left;omega));refine zr ?_;refine AOps.neqB rfl rfl rfl rfl rfl rfl ?_;refine zd ?_;(focus ((with_reducible apply AW.condD);exact rfl;exact rfl;all_goals intro hc_));refine Q195 ?_;refine Q17 ?_;(all_goals skip);rotate_left;refine Q308 ?_;(all_goals skip);rotate_left)
   all_goals first|exact absurd rfl hc_|exact⟨i+1,by omega,by omega,weak rfl (by(refine⟨.eq rfl rfl,?_⟩;exact Q148)) (by(exact trivial)) rfl⟩
 ·(refine Q111 ?_;refine Q307 ?_;refine Q14 ?_;refine Q195 ?_)
  (apply ends_ret;(exact Res.one (.tmp rfl rfl));(refine Le.litB ?_;(rfl)))
theorem lawLem_fn (v:Int) (cl:List (List Int)) (a b:List Int):Fn Try.prog 4 [fml v cl,.pv (ints a),.pv (ints b)] (litB true):=by
 have hh:=headW_fn
 have hs:=smallT_fn v cl
 cases e1:smallT v cl with
 |false=>
  rw[e1] at hs
  have hw1:=trivial
  have hw2:=trivial
  refine Fn.enter (n:=133) Try.func4 rfl rfl rfl rfl rfl (by decide) fun g hro_ hwt_=>?_;(try refine nz ?_)
  (refine Q228 ?_;refine zm ?_;refine Q107 ?_;refine zm ?_;refine Q107 ?_;refine zm ?_;refine Q96 ?_;refine zm ?_;refine Q96 ?_;refine Q43 ?_;refine Q262 ?_;refine Q153 ?_)
  (apply ends_ret;(exact Res.one (.tmp rfl rfl));(refine Le.litB ?_;(rfl)))
 |true=>
 rw[e1] at hs
 obtain⟨hv,hcl40,hclw⟩:=smallT_parts e1
 have hw1:=within20_fn v a (by omega)
 have hw2:=within20_fn v b (by omega)
 by_cases ha:a.length≤12
 ·by_cases hb:b.length≤12
  ·cases e2:withinM v a with
   |false=>
    rw[e2] at hw1
    refine Fn.enter (n:=133) Try.func4 rfl rfl rfl rfl rfl (by decide) fun g hro_ hwt_=>?_;(try refine nz ?_)
    (refine Q122 ?_;refine Q96 ?_;refine Q43 ?_;refine Q262 ?_;refine Q153 ?_)
    (apply ends_ret;(exact Res.one (.tmp rfl rfl));(refine Le.litB ?_;(rfl)))
   |true=>
   rw[e2] at hw1
   cases e3:withinM v b with
   |false=>
    rw[e3] at hw2
    refine Fn.enter (n:=133) Try.func4 rfl rfl rfl rfl rfl (by decide) fun g hro_ hwt_=>?_;(try refine nz ?_)
    (refine Q122 ?_;refine zl ?_;refine AOps.fieldAddrN 24 0 0 rfl rfl rfl rfl ?_;refine zl ?_;refine zb ?_;refine Q91 ?_;refine zA (hw2) ?_;refine Q32 ?_;refine Q43 ?_;refine Q262 ?_;refine Q153 ?_)
    (apply ends_ret;(exact Res.one (.tmp rfl rfl));(refine Le.litB ?_;(rfl)))
   |true=>
   rw[e3] at hw2
   obtain⟨n,rfl⟩:∃n:Nat,v=n:=⟨v.toNat,by omega⟩
   have hn8:n≤8:=by omega
   have hlitc:∀c∈cl,c.length≤1000000∧∀x∈c,Lit n x:=fun c hc=>⟨by have:=(hclw c hc).2;omega,fun x hx=>by have:=withinM_spec (hclw c hc).1 x hx;exact⟨this.1,by omega,by omega⟩⟩
   have hla:∀x∈a,Lit n x:=fun x hx=>by have:=withinM_spec e2 x hx;exact⟨this.1,by omega,by omega⟩
   have hlb:∀x∈b,Lit n x:=fun x hx=>by have:=withinM_spec e3 x hx;exact⟨this.1,by omega,by omega⟩
   have h1:=solved_fn n cl a (by omega) (by omega) hlitc hla (by omega)
   refine Fn.enter (n:=133) Try.func4 rfl rfl rfl rfl rfl (by decide) fun g hro_ hwt_=>?_;(try refine nz ?_)
   (refine Q122 ?_;refine zl ?_;refine AOps.fieldAddrN 24 0 0 rfl rfl rfl rfl ?_;refine zl ?_;refine zb ?_;refine Q91 ?_;refine zA (hw2) ?_;refine Q32 ?_;refine Q134 ?_;refine Q284 ?_;refine zm ?_;(with_reducible apply AOps.callR (hf:=h1));(with_reducible assumption);(iterate 3 exact rfl);(repeat (first|exact trivial|refine⟨rfl,?_⟩));(repeat (first|exact .nil|(refine .cons ?_ ?_;(first|exact .eq rfl rfl|exact .nil _|exact .any _))));(intro x_;exact rfl);exact rfl;(repeat (first|exact trivial|refine⟨rfl,?_⟩|refine⟨obIds_set,?_⟩));(intro x_;(repeat (first|exact trivial|refine⟨rfl,?_⟩|refine⟨obIds_set,?_⟩)));(intro x_;exact rfl);exact rfl;(intro x_ hx_);refine Q92 ?_;refine zo ?_;refine AW.regionM [0,1,3,4] [8] rfl (by assumption) (by kernel_rfl) (by kernel_rfl) rfl ?_;show AOps .held _ _ _ [_,_,_,_] _ _;refine Q80 ?_;refine Q60 ?_;refine Q4 ?_;intro k_ hk_;refine nz ?_;apply AR.cut [4,3,1,0,2,5,6,7];intro hJ_0;apply AR.cut [4,3,1,0,2,7];intro hJ_1;(refine AR.step2M (i:=2) (j:=7) rfl (by kernel_rfl) rfl rfl ?_ ?_<;>intro g_ hgro_ hw_);refine AOps.bs0 rfl rfl rfl rfl rfl ?_;refine Q205 ?_;(refine AR.step2M (i:=5) (j:=7) rfl (by kernel_rfl) rfl rfl ?_ ?_<;>intro g_ hgro_ hw_);(with_reducible apply AOps.appendS);exact rfl;(first|exact .pv rfl|exact .own rfl|exact .nil rfl);(iterate 9 exact rfl);(first|omega|(simp only[List.length_map,List.length_append,List.length_cons,List.length_nil,List.length_drop,List.length_take,List.length_set,List.length_range,chunk_len];omega));refine Q205 ?_;refine AR.free 6 (by kernel_rfl) rfl rfl rfl (Frees.build 24 [0,1] rfl rfl rfl rfl rfl rfl rfl rfl) ?_;(try refine nz ?_);refine AR.step1M (i:=7) rfl (by kernel_rfl) rfl ?_;intro g_ hgro_ hw_;refine Q240 ?_;exact Q162;refine Q240 ?_;exact Q244;refine Q143 ?_;refine Q4 ?_;refine AR.step1M (i:=2) rfl (by kernel_rfl) rfl ?_;intro g_ hgro_ hw_;refine AOps.bs0 rfl rfl rfl rfl rfl ?_;refine Q205 ?_;(try refine nz ?_);refine AR.sw 1 2 (by assumption) (by kernel_rfl) (by kernel_rfl) ?_;refine Q120 ?_;refine AR.meet hJ_1 (by kernel_rfl) (fun g_=>weak rfl ?_ ?_ rfl);(iterate 52 refine⟨.eq rfl rfl,?_⟩);exact trivial;refine⟨.box _ rfl ?_,?_⟩;exact Q148;refine⟨.row rfl,?_⟩;exact Q282;refine AR.step1M (i:=5) rfl (by kernel_rfl) rfl ?_;intro g_ hgro_ hw_;(with_reducible apply AOps.appendS);exact rfl;(first|exact .pv rfl|exact .own rfl|exact .nil rfl);(iterate 9 exact rfl);(first|omega|(simp only[List.length_map,List.length_append,List.length_cons,List.length_nil,List.length_drop,List.length_take,List.length_set,List.length_range,chunk_len];omega));refine Q205 ?_;refine AR.free 6 (by kernel_rfl) rfl rfl rfl (Frees.build 24 [0,1] rfl rfl rfl rfl rfl rfl rfl rfl) ?_;(try refine nz ?_);(try refine nz ?_);refine AR.meet hJ_0 (by kernel_rfl) (fun g_=>weak rfl ?_ ?_ rfl);(iterate 3 refine⟨.eq rfl rfl,?_⟩);refine⟨.any _,?_⟩;(iterate 50 refine⟨.eq rfl rfl,?_⟩);exact trivial;refine⟨.box _ rfl ?_,?_⟩;exact Q148;refine⟨.row rfl,?_⟩;exact Q282;refine Q187 ?_;intro g_ hgro_ hwt2_;refine zB ?_;refine nz ?_;refine Q119 ?_;refine zo ?_;refine AW.stopS 6 ?_)
   obtain⟨k1,vals,core,P⟩:=x_
   have hs1:=hx_
   simp only at hs1 ⊢
   refine Stop.go ?_
   have hsu:=id hs1
   obtain⟨t1,u1,_,_,u2⟩:=hsu
   simp only at u2
   have hP20:P.length≤20000:=by rw[u2];exact u1.plen2
   have hPl:∀c∈P,c.length≤18:=fun c hc=>by
    have h1:=hs1.plens c hc
    omega
   have hPlit:∀c∈cl++P,∀x∈c,Lit n x:=by rw[u2];exact u1.lits
   have hch:Chain cl P:=by rw[u2];exact u1.prf
   clear u1 u2
   have hPw:∀c∈cl++P,withinM n c=true:=fun c hc=>within_lit (hPlit c hc)
   (refine zq ?_;refine Q271 ?_)
   (refine nz ?_;apply AW.loopR [12,11,9,7,3,1,2] [1,0] (fun i:Nat=>([(13,litI i)]:List (Nat×AV))) (fun i:Nat=>([(2,some (.box [litI n,.own 1 28 1 ((cl++P.take i).map fun c=>[ints c])]))]:List (Nat×Option Ob))) (fun i:Nat=>i≤P.length∧i≤1000) (fun i:Nat=>P.length - i) (0);(conv=>lhs;simp only[Nf.lpR,Nf.all,Nat.reduceBEq,reduceAdd,reduceSub]);(all_goals skip))
   ·exact⟨Nat.zero_le _,Nat.zero_le _⟩
   ·exact weak rfl (by(refine⟨.litE (by first|rfl|(rw[List.take_zero,List.append_nil];rfl)),?_⟩;refine⟨.eq rfl rfl,?_⟩;refine⟨.pvE (by first|rfl|(rw[List.take_zero,List.append_nil];rfl)),?_⟩;refine⟨.pvE (by first|rfl|(rw[List.take_zero,List.append_nil];rfl)),?_⟩;refine⟨.litE (by first|rfl|(rw[List.take_zero,List.append_nil];rfl)),?_⟩;refine⟨.eq rfl rfl,?_⟩;refine⟨.pvE (by first|rfl|(rw[List.take_zero,List.append_nil];rfl)),?_⟩;refine⟨.pvE (by first|rfl|(rw[List.take_zero,List.append_nil];rfl)),?_⟩;exact trivial)) (by(refine⟨.box _ rfl ?_,?_⟩;refine⟨.litE (by first|rfl|(rw[List.take_zero,List.append_nil];rfl)),?_⟩;refine⟨.ownE (by first|rfl|(rw[List.take_zero,List.append_nil];rfl)) rfl,?_⟩;exact trivial;refine⟨.row rfl,?_⟩;refine⟨.box _ rfl ?_,?_⟩;refine⟨.litE (by first|rfl|(rw[List.take_zero,List.append_nil];rfl)),?_⟩;refine⟨.pvE (by first|rfl|(rw[List.take_zero,List.append_nil];rfl)),?_⟩;(iterate 2 exact trivial))) rfl
   rintro i ⟨hi,hi2⟩
   by_cases hlt:i<P.length∧i<1000
   ·obtain⟨hl1,hl2⟩:=hlt
    have hG:∀c∈cl++P.take i,c∈cl++P:=fun c hc=>by
     rcases List.mem_append.1 hc with hc|hc
     ·exact List.mem_append.2 (.inl hc)
     ·exact List.mem_append.2 (.inr (List.mem_of_mem_take hc))
    have hGl:(cl++P.take i).length≤1040:=by rw[List.length_append,List.length_take];omega
    have hGc:∀c∈cl++P,c.length≤18:=fun c hc=>by
     rcases List.mem_append.1 hc with hc|hc
     ·have:=(hclw c hc).2;omega
     ·exact hPl c hc
    have hPi:=hPl _ (List.getElem_mem hl1)
    have him:=impl_fn (n:Nat) (cl++P.take i) P[i] ⟨by omega,fun c hc=>⟨hPw c (hG c hc),by have:=hGc c (hG c hc);omega⟩,by omega⟩ (by omega) (hPw _ (List.mem_append.2 (.inr (List.getElem_mem hl1))))
    rw[(impl_rup (by omega) (fun c hc=>hPw c (hG c hc)) (hPw _ (List.mem_append.2 (.inr (List.getElem_mem hl1))))).2 (hch i hl1)] at him
    have e:((cl++P.take (i+1)).map fun c=>[ints c])=((cl++P.take i).map fun c=>[ints c])++ [[ints P[i]]]:=by
     rw[List.take_succ_eq_append_getElem hl1,← List.append_assoc,List.map_append];rfl
    have hl1':(i:Int)<(P.length:Int):=by omega
    have hl2':(i:Int)<1000:=by omega
    (refine Q111 ?_;refine zm ?_;refine Q178 ?_;refine zs ?_;refine zT ?_;refine zd ?_;refine Q5 ?_;(iterate 2 refine zo ?_);(with_reducible apply AW.regionQ);exact rfl;exact rfl;kernel_rfl;(with_reducible assumption);(iterate 2 refine zm ?_);(focus ((with_reducible apply AOps.index_map);(iterate 7 exact rfl);rotate_left;omega));refine AOps.fieldAddr_rN 30 0 0 1 rfl rfl rfl rfl ?_;refine nz ?_;refine zr ?_;refine AOps.neq rfl rfl rfl rfl rfl ?_;refine zm ?_;refine zl ?_;refine Q284 ?_;refine Q91 ?_;refine zm ?_;refine zl ?_;(focus ((with_reducible apply AOps.index_map);(iterate 7 exact rfl);rotate_left;omega));refine zl ?_;refine AOps.fieldAddr_rN 30 1 1 1 rfl rfl rfl rfl ?_;refine nz ?_;refine zl ?_;refine zr ?_;refine zl ?_;refine zA (him) ?_;refine Q32 ?_;refine Q67 ?_;refine Q37 ?_;refine AW.regionM [0,1,2,3,4,5,6] [10] rfl (by assumption) (by kernel_rfl) (by kernel_rfl) rfl ?_;show AOps .held _ _ _ [_,_,_,_,_,_,_] _ _;refine Q60 ?_;(iterate 2 refine zm ?_);(focus ((with_reducible apply AOps.index_map);(iterate 7 exact rfl);rotate_left;omega));refine AOps.fieldAddr_rN 30 1 1 1 rfl rfl rfl rfl ?_;refine nz ?_;refine zr ?_;refine Q4 ?_;intro k_ hk_;refine nz ?_;refine AR.step1M (i:=7) rfl (by kernel_rfl) rfl ?_;intro g_ hgro_ hw_;refine Q71 ?_;refine Q4 ?_;refine AR.step1M (i:=8) rfl (by kernel_rfl) rfl ?_;intro g_ hgro_ hw_;(with_reducible apply AOps.appendS);exact rfl;(first|exact .pv rfl|exact .own rfl|exact .nil rfl);(iterate 9 exact rfl);(first|omega|(simp only[List.length_map,List.length_append,List.length_cons,List.length_nil,List.length_drop,List.length_take,List.length_set,List.length_range,chunk_len];omega));refine Q205 ?_;refine AR.readsM [9] (by kernel_rfl) (by kernel_rfl) (by kernel_rfl) (by kernel_rfl) ?_;intro g_ hgro_;show AOps .held _ _ _ [_] _ _;refine AOps.fieldAddrN 24 1 1 rfl rfl rfl rfl ?_;refine Q4 ?_;intro k_ hk_;refine nz ?_;refine AR.step1LM (i:=10) rfl (by kernel_rfl) rfl (by kernel_rfl) ?_;intro g_ hgro_ hwt2_;refine Q20 ?_;refine Q31 ?_;refine Q29 ?_;refine zm ?_;refine zj ?_;refine Q11 ?_)
    exact⟨i+1,⟨by omega,by omega⟩,by omega,weak rfl (by(refine⟨.litE (by first|rfl|(rw[e])),?_⟩;refine⟨.eq rfl rfl,?_⟩;refine⟨.pvE (by first|rfl|(rw[e])),?_⟩;refine⟨.pvE (by first|rfl|(rw[e])),?_⟩;refine⟨.litE (by first|rfl|(rw[e])),?_⟩;refine⟨.eq rfl rfl,?_⟩;refine⟨.pvE (by first|rfl|(rw[e])),?_⟩;refine⟨.pvE (by first|rfl|(rw[e])),?_⟩;exact trivial)) (by(refine⟨.box _ rfl ?_,?_⟩;refine⟨.litE (by first|rfl|(rw[e])),?_⟩;refine⟨.ownE (by first|rfl|(rw[e])) rfl,?_⟩;exact trivial;refine⟨.row rfl,?_⟩;refine⟨.box _ rfl ?_,?_⟩;refine⟨.litE (by first|rfl|(rw[e])),?_⟩;refine⟨.pvE (by first|rfl|(rw[e])),?_⟩;(iterate 2 exact trivial))) rfl⟩
   ·obtain⟨G,hG⟩:∃G,G=cl++P.take i:=⟨_,rfl⟩
    have hGs:∀c∈G,c∈cl++P:=fun c hc=>by
     rw[hG] at hc
     rcases List.mem_append.1 hc with hc|hc
     ·exact List.mem_append.2 (.inl hc)
     ·exact List.mem_append.2 (.inr (List.mem_of_mem_take hc))
    have hGl:G.length≤1040:=by rw[hG,List.length_append,List.length_take];omega
    have hGc:∀c∈G,c.length≤1000000∧∀x∈c,Lit n x:=fun c hc=>⟨by
     rcases List.mem_append.1 (hGs c hc) with hc|hc
     ·have:=(hclw c hc).2;omega
     ·have:=hPl c hc;omega,hPlit c (hGs c hc)⟩
    have hsat:=hch.satT (fun c hc x hx=>(hPlit c hc x hx).1) i
    rw[← hG] at hsat ⊢
    have h2:=solved_fn n cl b (by omega) (by omega) hlitc hlb (by omega)
    have h3:=solved_fn n G b (by omega) (by omega) hGc hlb (by omega)
    have hlt':¬((i:Int)<(P.length:Int)∧(i:Int)<1000):=by omega
    by_cases hip:i<P.length
    ·have hip':(i:Int)<(P.length:Int):=by omega
     have hi3:¬(i:Int)<1000:=by omega
     (refine Q111 ?_;refine zm ?_;refine Q178 ?_;refine zs ?_;refine zT ?_;refine Q307 ?_;refine Q14 ?_;refine Q52 ?_;refine Q284 ?_;refine zm ?_;(with_reducible apply AOps.callR (hf:=h2));(with_reducible assumption);(iterate 3 exact rfl);(repeat (first|exact trivial|refine⟨rfl,?_⟩));(repeat (first|exact .nil|(refine .cons ?_ ?_;(first|exact .eq rfl rfl|exact .nil _|exact .any _))));(intro x_;exact rfl);exact rfl;(repeat (first|exact trivial|refine⟨rfl,?_⟩|refine⟨obIds_set,?_⟩));(intro x_;(repeat (first|exact trivial|refine⟨rfl,?_⟩|refine⟨obIds_set,?_⟩)));(intro x_;exact rfl);exact rfl;(intro x_ hx_);refine Q92 ?_;refine AW.stopS 13 ?_)
     obtain⟨k2,vals2,core2,P2⟩:=x_
     have hs2:=hx_
     simp only at hs2 ⊢
     refine Stop.go ?_
     refine AW.frzI 1 rfl ?_
     (try refine nz ?_)
     (refine zq ?_;refine Q284 ?_;refine zm ?_;(with_reducible apply AOps.callR (hf:=h3));(with_reducible assumption);(iterate 3 exact rfl);(repeat (first|exact trivial|refine⟨rfl,?_⟩));(repeat (first|exact .nil|(refine .cons ?_ ?_;(first|exact .eq rfl rfl|exact .nil _|exact .any _))));(intro x_;exact rfl);exact rfl;(repeat (first|exact trivial|refine⟨rfl,?_⟩|refine⟨obIds_set,?_⟩));(intro x_;(repeat (first|exact trivial|refine⟨rfl,?_⟩|refine⟨obIds_set,?_⟩)));(intro x_;exact rfl);exact rfl;(intro x_ hx_);refine Q92 ?_;refine AW.stopS 14 ?_)
     obtain⟨k3,vals3,core3,P3⟩:=x_
     have hs3:=hx_
     simp only at hs3 ⊢
     refine Stop.go ?_
     obtain⟨ek,ev⟩:=hs2.same hs3 hn8 hlb hsat
     simp only at ek ev
     subst ek
     rcases hs2.one hn8 with e|e
     ·simp only at e
      subst e
      rw[← ev rfl]
      have hsv:=hs2.satv rfl
      have hsa:=sameT_fn vals2 (by have:=hsv.1;simp only at this;omega)
      (refine Q166 ?_;refine Q91 ?_;refine zm ?_;refine Q91 ?_;refine zA (hsa) ?_;refine zl ?_;refine AOps.pick_lf rfl rfl rfl rfl rfl rfl ?_;refine Q268 ?_)
      (apply ends_ret;(exact Res.one (.tmp rfl rfl));(refine Le.litB ?_;(rfl)))
     ·simp only at e
      subst e
      (refine Q330 ?_)
      (apply ends_ret;(exact Res.one (.tmp rfl rfl));(refine Le.litB ?_;(rfl)))
    ·have hip':¬(i:Int)<(P.length:Int):=by omega
     (refine Q111 ?_;refine zm ?_;(iterate 2 refine AOps.guardTn rfl rfl rfl rfl rfl rfl (by with_reducible assumption) ?_);refine zF ?_;refine Q67 ?_;refine Q14 ?_;refine Q52 ?_;refine Q284 ?_;refine zm ?_;(with_reducible apply AOps.callR (hf:=h2));(with_reducible assumption);(iterate 3 exact rfl);(repeat (first|exact trivial|refine⟨rfl,?_⟩));(repeat (first|exact .nil|(refine .cons ?_ ?_;(first|exact .eq rfl rfl|exact .nil _|exact .any _))));(intro x_;exact rfl);exact rfl;(repeat (first|exact trivial|refine⟨rfl,?_⟩|refine⟨obIds_set,?_⟩));(intro x_;(repeat (first|exact trivial|refine⟨rfl,?_⟩|refine⟨obIds_set,?_⟩)));(intro x_;exact rfl);exact rfl;(intro x_ hx_);refine Q92 ?_;refine AW.stopS 13 ?_)
     obtain⟨k2,vals2,core2,P2⟩:=x_
     have hs2:=hx_
     simp only at hs2 ⊢
     refine Stop.go ?_
     refine AW.frzI 1 rfl ?_
     (try refine nz ?_)
     (refine zq ?_;refine Q284 ?_;refine zm ?_;(with_reducible apply AOps.callR (hf:=h3));(with_reducible assumption);(iterate 3 exact rfl);(repeat (first|exact trivial|refine⟨rfl,?_⟩));(repeat (first|exact .nil|(refine .cons ?_ ?_;(first|exact .eq rfl rfl|exact .nil _|exact .any _))));(intro x_;exact rfl);exact rfl;(repeat (first|exact trivial|refine⟨rfl,?_⟩|refine⟨obIds_set,?_⟩));(intro x_;(repeat (first|exact trivial|refine⟨rfl,?_⟩|refine⟨obIds_set,?_⟩)));(intro x_;exact rfl);exact rfl;(intro x_ hx_);refine Q92 ?_;refine AW.stopS 14 ?_)
     obtain⟨k3,vals3,core3,P3⟩:=x_
     have hs3:=hx_
     simp only at hs3 ⊢
     refine Stop.go ?_
     obtain⟨ek,ev⟩:=hs2.same hs3 hn8 hlb hsat
     simp only at ek ev
     subst ek
     rcases hs2.one hn8 with e|e
     ·simp only at e
      subst e
      rw[← ev rfl]
      have hsv:=hs2.satv rfl
      have hsa:=sameT_fn vals2 (by have:=hsv.1;simp only at this;omega)
      (refine Q166 ?_;refine Q91 ?_;refine zm ?_;refine Q91 ?_;refine zA (hsa) ?_;refine zl ?_;refine AOps.pick_lf rfl rfl rfl rfl rfl rfl ?_;refine Q268 ?_)
      (apply ends_ret;(exact Res.one (.tmp rfl rfl));(refine Le.litB ?_;(rfl)))
     ·simp only at e
      subst e
      (refine Q330 ?_)
      (apply ends_ret;(exact Res.one (.tmp rfl rfl));(refine Le.litB ?_;(rfl)))
  ·refine Fn.enter (n:=133) Try.func4 rfl rfl rfl rfl rfl (by decide) fun g hro_ hwt_=>?_;(try refine nz ?_)
   (refine Q228 ?_;refine zm ?_;refine Q91 ?_;refine zn ?_;refine Q75 ?_;(iterate 2 refine Q154 ?_);refine zn ?_;refine Q62 ?_;refine zm ?_;(iterate 5 refine AOps.guardFn rfl rfl rfl rfl rfl rfl (by first|omega|decide) ?_);refine zT ?_;refine zm ?_;refine Q96 ?_;refine Q43 ?_;refine Q262 ?_;refine Q153 ?_)
   (apply ends_ret;(exact Res.one (.tmp rfl rfl));(refine Le.litB ?_;(rfl)))
 ·refine Fn.enter (n:=133) Try.func4 rfl rfl rfl rfl rfl (by decide) fun g hro_ hwt_=>?_;(try refine nz ?_)
  (refine Q228 ?_;refine zm ?_;refine Q91 ?_;refine zn ?_;refine Q75 ?_;refine zm ?_;(iterate 3 refine AOps.guardFn rfl rfl rfl rfl rfl rfl (by first|omega|decide) ?_);refine zT ?_;refine zm ?_;refine Q96 ?_;refine zm ?_;refine Q96 ?_;refine Q43 ?_;refine Q262 ?_;refine Q153 ?_)
  (apply ends_ret;(exact Res.one (.tmp rfl rfl));(refine Le.litB ?_;(rfl)))
end Go.Ab
namespace Go.Proofs.Ytigjjjpcjnifhaa.Law2
open Go Go.Ab Go.ChangeShapes Go.WideShapes Go.ChangeAt Go.RowKit
set_option linter.unusedVariables false
theorem own:ownKnob Try.prog.godebug=none:=by kernel_rfl
theorem laidOut:laidOutB Try.prog=true:=by kernel_rfl
theorem rdInts:Rd Try.prog 28 (fun l:List Int=>[ints l]) (fun _=>True):=
 Rd.map (Rd.slice (e:=3) (k:=1) (by':=8) Try.underlying28 (by kernel_rfl) (by decide) (by kernel_rfl) (by decide) (fun _=>rfl) (Rd.int Try.underlying3)) id (fun _=>rfl) (fun _ _=>trivial)
theorem rdIntss:Rd Try.prog 22 (fun l:List (List Int)=>[intss l]) (fun l=>l.length*24≤reachBytes):=
 Rd.map (Rd.slice (e:=28) (k:=1) (by':=24) Try.underlying22 (by kernel_rfl) (by decide) (by kernel_rfl) (by decide) (fun _=>rfl) rdInts) id (fun _=>rfl) (fun _ h=>h.1)
theorem rdCNF:Rd Try.prog 24 (fun p:Int×List (List Int)=>[.lit (.int .i64 p.1),intss p.2]) (fun _=>True):=
 Rd.map (Rd.struct (n:=2) Try.underlying24 (by kernel_rfl) (RdF.cons (k:=1) (n:=1) rfl (by kernel_rfl) (Rd.int Try.underlying3) (RdF.cons (k:=1) (n:=0) rfl (by kernel_rfl) rdIntss RdF.nil))) (fun p=>(p.1,p.2.1)) (fun _=>rfl) (fun _ _=>trivial)
theorem ra_true {N:Nat→Prop} {w:World} {v:Value} (h:RA (pcx N) w v (litB true)):v=.bool true:=by
 cases h with
 |pv h=>cases h;rfl
set_option maxRecDepth 100000 in
theorem lifted (os:Os) (started:os.Started) (H:Type) (enc:TypeId×Value→H):
  ReturnsInHanded {} Try.checked os 4 .any (Rows.topLemmasAreRedundantSpec.pre6 enc Try.prog Try.f4 Rows.topLemmasAreRedundantRow.domain false) (Rows.topLemmasAreRedundantSpec.post enc Try.prog Try.f4 false true false false):=by
 refine returnsInHanded_of_change_sized (C:=Try.checked) own started (by kernel_rfl) Try.func4
  (ChangeSpec.witness6 (enc:=enc) (C:=Try.checked) false ⟨#[], #[.agg #[.int .i64 0,.slice none 0 0],.slice none 0 0,.slice none 0 0],[]⟩ 8 (by kernel_rfl) (by kernel_rfl) (by kernel_rfl) (by kernel_rfl)) ?_
 intro W base args ds gs before hval0 hW hcnd hsz _
 have hval:∀(j:Nat) t v,Try.f4.params[j]? =some t→args[j]? =some v→Value.okWide Try.prog W .any base t v:=hval0
 have hW':=hW
 obtain⟨p,q,hA0,hV,rfl,hfz,hnd⟩:=hW
 have hA:DataW.TrodAll enc Try.prog W 0 (fun _=>true) true Try.f4.params.toList args.toList ds p:=hA0
 rw[Try.params4] at hA hval
 obtain⟨v0,vs0,d0,ds0,p0,q0,hargs,rfl,rfl,h0,r0⟩:=trodAll_cons hA
 obtain⟨v1,vs1,d1,ds1,p1,q1,rfl,rfl,rfl,h1,r1⟩:=trodAll_cons r0
 obtain⟨v2,vs2,d2,ds2,p2,q2,rfl,rfl,rfl,h2,r2⟩:=trodAll_cons r1
 obtain⟨rfl,rfl,rfl⟩:=trodAll_nil r2
 obtain rfl:args= #[v0,v1,v2]:=by cases args;simp_all
 obtain⟨rfl,rfl⟩:=trodVars_none hV
 have wt:∀(j:Nat) (t:TypeId) (d:DataW H),[24,28,28][j]? =some t→[d0,d1,d2][j]? =some d→∀n∈d.weights Try.prog t,n≤reachBytes:=by
  intro j t d ht hd
  have hj:j<3:=(List.getElem?_eq_some_iff.1 ht).1
  refine arg_weights hsz (j:=j) ?_ ?_
  ·rw[List.getElem?_append_left (by rw[Try.params4];exact hj),Try.params4];exact ht
  ·rw[List.getElem?_append_left (by simpa using hj)];exact hd
 obtain⟨cs0,rfl⟩:=Ab.okWide_struct Try.underlying24 (hval 0 24 v0 rfl rfl)
 obtain⟨a1,l1,c1,rfl⟩:=okWide_slice Try.underlying28 (hval 1 28 v1 rfl rfl)
 obtain⟨a2,l2,c2,rfl⟩:=okWide_slice Try.underlying28 (hval 2 28 v2 rfl rfl)
 obtain⟨⟨x0,y0⟩,s0,o0⟩:=arg_agg rdCNF h0 (wt 0 24 d0 rfl rfl) rfl
 obtain⟨x1,s1,o1⟩:=arg_one rdInts h1 (wt 1 28 d1 rfl rfl) slice_cells
 obtain⟨x2,s2,o2⟩:=arg_one rdInts h2 (wt 2 28 d2 rfl rfl) slice_cells
 have lt0:∀x∈p0,x.block<W.heap.size:=by obtain⟨m,hm⟩:=h0;exact DataW.trod_lt m _ _ _ hm
 have lt1:∀x∈p1,x.block<W.heap.size:=by obtain⟨m,hm⟩:=h1;exact DataW.trod_lt m _ _ _ hm
 have lt2:∀x∈p2,x.block<W.heap.size:=by obtain⟨m,hm⟩:=h2;exact DataW.trod_lt m _ _ _ hm
 clear hA0 hval0
 refine((lawLem_fn x0 y0 x1 x2).calls (fun _=>True) W _ (fun _ _=>trivial) rfl ?_).mono fun e W' ⟨v,he,hv,bel⟩=>?_
 ·intro j v av hj hav
  match j,hj,hav with
  |0,hj,hav=>cases hj;cases hav;exact s0
  |1,hj,hav=>cases hj;cases hav;exact s1
  |2,hj,hav=>cases hj;cases hav;exact s2
  |j+3,hj,hav=>simp at hav
 ·obtain rfl:=ra_true hv
  subst he
  exact⟨_,rfl,_,_,_,[],_,[],hW',trodAll_mk1 (shut_bool Try.underlying4 _),(trodAll_cons_mk (Below.trod laidOut (by kernel_rfl) (of_decide_eq_true (by kernel_rfl)) h0 bel lt0) (trodAll_cons_mk (Below.trod laidOut (by kernel_rfl) (of_decide_eq_true (by kernel_rfl)) h1 bel lt1) (trodAll_cons_mk (Below.trod laidOut (by kernel_rfl) (of_decide_eq_true (by kernel_rfl)) h2 bel lt2) trodAll_mk0))),rfl,bel.frame _,fun h=>by cases h⟩
theorem over:Rows.topLemmasAreRedundantRow.holds Try.pinned (OpenSpec.ofChange Rows.topLemmasAreRedundantSpec):=
 OpenClaim.holds_of_wide 4 Try.f4 rfl rfl rfl rfl rfl rfl rfl ⟨rfl,rfl,rfl,rfl,rfl⟩ rfl rfl rfl rfl rfl (by kernel_rfl) Try.func4 (by kernel_rfl)
  (of_decide_eq_true (by kernel_rfl)) (by unfold Func.isWrapper;first|(rw[if_pos (by decide+kernel)];kernel_rfl)|(rw[if_neg (by decide+kernel)];exact⟨rfl,rfl⟩))
  (fun os started H enc _=>lifted os started H enc)
theorem proved:Rows.TopLemmasAreRedundantSaid:=over
#print axioms proved
end Go.Proofs.Ytigjjjpcjnifhaa.Law2
