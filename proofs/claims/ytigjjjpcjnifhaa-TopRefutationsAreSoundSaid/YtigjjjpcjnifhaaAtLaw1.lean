/- Refutes accepts a proof only if the solver finds no satisfying assignment, and a formula that becomes satisfiable by removing a clause is refuted by no proof. No conditions. -/
import Derived.Test.YtigjjjpcjnifhaaAtUB
import Derived.Test.YtigjjjpcjnifhaaAbZ
import Derived.Test.YtigjjjpcjnifhaaAbL3
import Derived.Test.YtigjjjpcjnifhaaAbL2
import Derived.Test.YtigjjjpcjnifhaaRows
import Derived.WalkKit
import Derived.ProofKit
import Derived.OpenShut
import Derived.ChangeOld
import Derived.Below
set_option linter.unusedSimpArgs false
set_option linter.unusedVariables false
namespace Go.Ab
open Go Go.Proofs
open Nat (reduceAdd reduceSub)
set_option maxRecDepth 20000
set_option maxHeartbeats 8000000
attribute [local irreducible] AW AOps thenD inBlockD AR iterEnds roundEndsN inlEnds noGotoD canon sortL compL compZ metB imgL withinM symOk refImplM runC stepC smallT
theorem lawRef_fn (v:Int) (cl:List (List Int)) (s:List (List Int)) (l:List StepM) (k:Int) (hk:0≤k∧k≤255):Fn Try.prog 3 [fml v cl,.pv (intss s),.pv (steps l),.pv (.lit (.int .u8 k))] (litB true):=by
 have hh:=headW_fn
 have hs:=smallT_fn v cl
 cases e1:smallT v cl with
 |false=>
  rw[e1] at hs
  refine Fn.enter (n:=139) Try.func3 rfl rfl rfl rfl rfl (by decide) fun g hro_ hwt_=>?_;(try refine nz ?_)
  (refine Q182 ?_;refine zm ?_;refine Q100 ?_;refine zm ?_;refine Q100 ?_;refine Q170 ?_;refine zm ?_;refine Q124 ?_)
  (apply ends_ret;(exact Res.one (.tmp rfl rfl));(refine Le.litB ?_;(rfl)))
 |true=>
 rw[e1] at hs
 obtain⟨hv,hcl40,hclw⟩:=smallT_parts e1
 by_cases hs6:s.length≤6
 ·by_cases hl40:l.length≤40
  ·obtain⟨n,rfl⟩:∃n:Nat,v=n:=⟨v.toNat,by omega⟩
   have hn8:n≤8:=by omega
   refine Fn.enter (n:=139) Try.func3 rfl rfl rfl rfl rfl (by decide) fun g hro_ hwt_=>?_;(try refine nz ?_)
   (refine Q182 ?_;refine zm ?_;refine Q133 ?_;refine zn ?_;refine Q81 ?_;(iterate 2 refine Q144 ?_);refine zn ?_;refine Q73 ?_;refine Q110 ?_;refine zo ?_;refine Q41 ?_;refine Q293 ?_)
   (refine nz ?_;apply AW.loopR [9,4,1,2,3] [0] (fun i:Nat=>([(10,litI i)]:List (Nat×AV))) (fun i:Nat=>([]:List (Nat×Option Ob))) (fun i:Nat=>i≤s.length∧∀c∈s.take i,c.length≤12) (fun i:Nat=>s.length - i) (0);(conv=>lhs;simp only[Nf.lpR,Nf.all,Nat.reduceBEq,reduceAdd,reduceSub]);(all_goals skip))
   ·exact⟨Nat.zero_le _,fun c hc=>by simp at hc⟩
   ·exact Q258
   rintro i ⟨hi,hsm⟩
   by_cases hlt:i<s.length
   ·by_cases hc:s[i].length≤12
    ·(refine Q147 ?_;(focus ((with_reducible apply AOps.index_map);(iterate 7 exact rfl);rotate_left;omega));refine Q340 ?_)
     exact⟨i+1,⟨by omega,fun c hc2=>by
      rw[List.take_succ_eq_append_getElem hlt,List.mem_append,List.mem_singleton] at hc2
      rcases hc2 with q|rfl
      ·exact hsm c q
      ·exact hc⟩,by omega,weak rfl (by(refine⟨.eq rfl rfl,?_⟩;(iterate 5 refine⟨.eq rfl rfl,?_⟩);exact trivial)) (by(refine⟨.box _ rfl ?_,?_⟩;(iterate 2 refine⟨.eq rfl rfl,?_⟩);(iterate 2 exact trivial))) rfl⟩
    ·(refine Q147 ?_;(focus ((with_reducible apply AOps.index_map);(iterate 7 exact rfl);rotate_left;omega));refine zr ?_;refine Q203 ?_;refine Q160 ?_;refine Q216 ?_;refine Q209 ?_)
     (apply ends_ret;(exact Res.one (.tmp rfl rfl));(refine Le.litB ?_;(rfl)))
   ·rw[take_all (l:=s) (by omega)] at hsm
    (refine Q103 ?_;refine Q305 ?_;refine zo ?_;refine Q41 ?_;refine Q293 ?_)
    (refine nz ?_;apply AW.loopR [9,4,1,2,3] [0] (fun j:Nat=>([(11,litI j)]:List (Nat×AV))) (fun j:Nat=>([]:List (Nat×Option Ob))) (fun j:Nat=>j≤l.length∧∀t∈l.take j,t.lits.length≤12) (fun j:Nat=>l.length - j) (0);(conv=>lhs;simp only[Nf.lpR,Nf.all,Nat.reduceBEq,reduceAdd,reduceSub]);(all_goals skip))
    ·exact⟨Nat.zero_le _,fun c hc=>by simp at hc⟩
    ·exact Q258
    rintro j ⟨hj,hlm⟩
    by_cases hlj:j<l.length
    ·by_cases hc:l[j].lits.length≤12
     ·(refine Q147 ?_;(focus ((with_reducible apply AOps.index_map);(iterate 7 exact rfl);rotate_left;omega));refine AOps.fieldAddr_rN 30 1 1 1 rfl rfl rfl rfl ?_;refine nz ?_;refine Q340 ?_)
      exact⟨j+1,⟨by omega,fun c hc2=>by
       rw[List.take_succ_eq_append_getElem hlj,List.mem_append,List.mem_singleton] at hc2
       rcases hc2 with q|rfl
       ·exact hlm c q
       ·exact hc⟩,by omega,weak rfl (by(refine⟨.eq rfl rfl,?_⟩;(iterate 5 refine⟨.eq rfl rfl,?_⟩);exact trivial)) (by(refine⟨.box _ rfl ?_,?_⟩;(iterate 2 refine⟨.eq rfl rfl,?_⟩);(iterate 2 exact trivial))) rfl⟩
     ·(refine Q147 ?_;(focus ((with_reducible apply AOps.index_map);(iterate 7 exact rfl);rotate_left;omega));refine AOps.fieldAddr_rN 30 1 1 1 rfl rfl rfl rfl ?_;refine nz ?_;refine zr ?_;refine Q203 ?_;refine Q160 ?_;refine Q216 ?_;refine Q209 ?_)
      (apply ends_ret;(exact Res.one (.tmp rfl rfl));(refine Le.litB ?_;(rfl)))
    ·rw[take_all (l:=l) (by omega)] at hlm
     clear hs hh
     have hlitc:∀c∈cl,c.length≤1000000∧∀x∈c,Lit n x:=fun c hc=>⟨by have:=(hclw c hc).2;omega,fun x hx=>by have:=withinM_spec (hclw c hc).1 x hx;exact⟨this.1,by omega,by omega⟩⟩
     have h1:=solved_fn n cl [] (by omega) (by omega) hlitc (by simp) (by simp)
     (refine Q103 ?_;refine Q305 ?_;refine Q41 ?_;refine Q179 ?_;(with_reducible apply AOps.callR (hf:=h1));(with_reducible assumption);(iterate 3 exact rfl);(repeat (first|exact trivial|refine⟨rfl,?_⟩));(repeat (first|exact .nil|(refine .cons ?_ ?_;(first|exact .eq rfl rfl|exact .nil _|exact .any _))));(intro x_;exact rfl);exact rfl;(repeat (first|exact trivial|refine⟨rfl,?_⟩|refine⟨obIds_set,?_⟩));(intro x_;(repeat (first|exact trivial|refine⟨rfl,?_⟩|refine⟨obIds_set,?_⟩)));(intro x_;exact rfl);exact rfl;(intro x_ hx_);refine Q1 ?_;refine nz ?_;refine Q143 ?_;refine Q174 ?_;refine AW.stopS 15 ?_)
     obtain⟨k1,vals,core,P⟩:=x_
     have hs1:=hx_
     simp only at hs1 ⊢
     refine Stop.go ?_
     have hwl:=wS_le hlm
     have hin:InC n cl s l:=⟨by omega,fun c hc=>⟨(hclw c hc).1,by have:=(hclw c hc).2;omega⟩,by omega,⟨by omega,fun c hc=>by have:=hsm c hc;omega⟩,⟨by omega,fun t ht=>by have:=hlm t ht;omega⟩,by omega⟩
     have hr:Fn Try.prog 9 [fml (n:Nat) cl,.pv (intss s),.pv (steps l)] (litB (refB n cl s l)):=refutes_fn n cl s l hin
     have hun:refB n cl s l=true→k1=2:=fun h=>(hs1.one hn8).resolve_left fun e=>by
      obtain⟨q1,q2⟩:=hs1.satv e
      exact refB_unsat hin h q1 q2
     by_cases hc0:cl.length=0
     ·have hk1:k1=1:=(hs1.iff hn8 (by simp)).2 ⟨List.replicate n false,by simp,by rw[List.eq_nil_of_length_eq_zero hc0];rfl,rfl⟩
      have hb:refB n cl s l=false:=by
       cases h:refB n cl s l with
       |false=>rfl
       |true=>have:=hun h;omega
      rw[hb] at hr
      subst hk1
      (refine Q300 ?_;refine Q259 ?_;refine Q41 ?_;(iterate 2 refine zm ?_);refine Q231 ?_;refine Q124 ?_)
      (apply ends_ret;(exact Res.one (.tmp rfl rfl));(refine Le.litB ?_;(rfl)))
     ·cases hb:refB n cl s l with
      |true=>
       have hk1:=hun hb
       rw[hb] at hr
       subst hk1
       (refine Q41 ?_;refine Q179 ?_;(iterate 2 refine zm ?_);refine zA (hr) ?_;refine zm ?_;refine Q133 ?_;refine AOps.neq rfl rfl rfl rfl rfl ?_;refine AOps.pick_lt rfl rfl rfl rfl rfl rfl ?_;refine Q112 ?_;refine zo ?_;refine Q41 ?_;refine Q70 ?_;refine zn ?_;refine Q218 ?_;refine AW.stopS 19 ?_)
       refine Stop.go ?_
       have hl0:0<cl.length:=by omega
       have hl1:0<(cl.length:Int):=by omega
       have hm0:0≤k % (cl.length:Int):=Int.emod_nonneg _ (by omega)
       have hm1:k % (cl.length:Int)<cl.length:=Int.emod_lt_of_pos _ (by omega)
       have hm2:(k % (cl.length:Int)).toNat≤cl.length:=by omega
       have hm3:(k % (cl.length:Int)+1).toNat≤cl.length:=by omega
       (refine Q242 ?_;show AOps .held _ _ _ [_,_,_,_,_,_] _ _;refine Q87 ?_;refine Q70 ?_;refine zm ?_;refine AOps.slice_toI rfl rfl rfl rfl rfl rfl rfl (by omega) (by omega) ?_;refine Q4 ?_;intro k_ hk_;refine nz ?_;apply AR.cut [6,5,4,3,1,0,2,7,8,9];intro hJ_0;apply AR.cut [6,5,4,3,1,0,2,9];intro hJ_1;(refine AR.step2M (i:=2) (j:=9) rfl (by kernel_rfl) rfl rfl ?_ ?_<;>intro g_ hgro_ hw_);refine AOps.bs0 rfl rfl rfl rfl rfl ?_;refine Q159 ?_;(refine AR.step2M (i:=7) (j:=9) rfl (by kernel_rfl) rfl rfl ?_ ?_<;>intro g_ hgro_ hw_);(with_reducible apply AOps.appendS);exact rfl;(first|exact .pv rfl|exact .own rfl|exact .nil rfl);(iterate 9 exact rfl);(first|omega|(simp only[List.length_map,List.length_append,List.length_cons,List.length_nil,List.length_drop,List.length_take,List.length_set,List.length_range,chunk_len];omega));refine Q280 ?_;intro g_ hgro_ hw_;refine Q207 ?_;exact Q151;refine Q207 ?_;exact Q215;refine Q123 ?_;refine Q4 ?_;refine AR.step1M (i:=2) rfl (by kernel_rfl) rfl ?_;intro g_ hgro_ hw_;exact Q171;refine AR.step1M (i:=7) rfl (by kernel_rfl) rfl ?_;intro g_ hgro_ hw_;(with_reducible apply AOps.appendS);exact rfl;(first|exact .pv rfl|exact .own rfl|exact .nil rfl);(iterate 9 exact rfl);(first|omega|(simp only[List.length_map,List.length_append,List.length_cons,List.length_nil,List.length_drop,List.length_take,List.length_set,List.length_range,chunk_len];omega));refine Q159 ?_;exact Q141;refine Q285 ?_;intro g_ hgro_ hwt2_;refine zB ?_;refine Q159 ?_;refine Q29 ?_;refine zo ?_;refine AW.regionM [0,1,2,3,4,5,6] [9] rfl (by assumption) (by kernel_rfl) (by kernel_rfl) rfl ?_;show AOps .held _ _ _ [_,_,_,_,_,_,_] _ _;(iterate 2 refine Q70 ?_);refine zm ?_;refine zj ?_;refine Q155 ?_;refine Q4 ?_;intro k_ hk_;refine nz ?_;refine AR.step1M (i:=7) rfl (by kernel_rfl) rfl ?_;intro g_ hgro_ hw_;(with_reducible apply AOps.appendS);exact rfl;(first|exact .pv rfl|exact .own rfl|exact .nil rfl);(iterate 9 exact rfl);(first|omega|(simp only[List.length_map,List.length_append,List.length_cons,List.length_nil,List.length_drop,List.length_take,List.length_set,List.length_range,chunk_len];omega));refine Q159 ?_;refine AR.readsM [8] (by kernel_rfl) (by kernel_rfl) (by kernel_rfl) (by kernel_rfl) ?_;intro g_ hgro_;show AOps .held _ _ _ [_] _ _;refine AOps.fieldAddrN 24 1 1 rfl rfl rfl rfl ?_;refine Q4 ?_;intro k_ hk_;refine nz ?_;refine Q175 ?_;intro g_ hgro_ hwt2_;refine Q277 ?_;refine Q29 ?_;refine AW.stopS 22 ?_)
       refine Stop.go ?_
       refine AW.frzI 1 rfl ?_
       (try refine nz ?_)
       obtain⟨G,hG⟩:∃G,G=cl.take (k % (cl.length:Int)).toNat++cl.drop (k % (cl.length:Int)+1).toNat:=⟨_,rfl⟩
       have hles:([]:List (List PV))++List.map (fun c=>[ints c]) (cl.take (k % (cl.length:Int)).toNat)++List.map (fun c=>[ints c]) (cl.drop (k % (cl.length:Int)+1).toNat)=G.map fun c=>[ints c]:=by
        rw[hG,List.map_append];rfl
       rw[hles]
       have hGs:∀c∈G,c∈cl:=fun c hc=>by
        rw[hG] at hc
        exact(List.mem_append.1 hc).elim List.mem_of_mem_take List.mem_of_mem_drop
       have hGl:G.length≤1000:=by rw[hG,List.length_append,List.length_take,List.length_drop];omega
       have hGw:∀c∈G,withinM n c=true∧c.length≤1000:=fun c hc=>⟨(hclw c (hGs c hc)).1,by have:=(hclw c (hGs c hc)).2;omega⟩
       have h2:=solved_fn n G [] (by omega) (by omega) (fun c hc=>hlitc c (hGs c hc)) (by simp) (by simp)
       clear hles hG
       (refine zq ?_;refine Q179 ?_;(with_reducible apply AOps.callR (hf:=h2));(with_reducible assumption);(iterate 3 exact rfl);(repeat (first|exact trivial|refine⟨rfl,?_⟩));(repeat (first|exact .nil|(refine .cons ?_ ?_;(first|exact .eq rfl rfl|exact .nil _|exact .any _))));(intro x_;exact rfl);exact rfl;(repeat (first|exact trivial|refine⟨rfl,?_⟩|refine⟨obIds_set,?_⟩));(intro x_;(repeat (first|exact trivial|refine⟨rfl,?_⟩|refine⟨obIds_set,?_⟩)));(intro x_;exact rfl);exact rfl;(intro x_ hx_);refine Q1 ?_;refine nz ?_;refine Q143 ?_;refine Q174 ?_;refine AW.stopS 23 ?_)
       obtain⟨k2,vals2,core2,P2⟩:=x_
       have hs2:=hx_
       simp only at hs2 ⊢
       refine Stop.go ?_
       rcases hs2.one hn8 with e2|e2
       ·obtain⟨p1,p2⟩:=hs2.satv e2
        simp only at e2
        subst e2
        have hi1:=hs1.inC hn8 hGw hGl
        have hi2:InC n G [] l:=⟨by omega,hGw,hGl,⟨by simp,fun c hc=>by simp at hc⟩,hin.hl,hin.h20⟩
        have hr1:Fn Try.prog 9 [fml (n:Nat) G,.pv (intss []),.pv (steps (stpsL P))] (litB (refB n G [] (stpsL P))):=refutes_fn n G [] (stpsL P) hi1
        have hr2:Fn Try.prog 9 [fml (n:Nat) G,.pv (intss []),.pv (steps l)] (litB (refB n G [] l)):=refutes_fn n G [] l hi2
        rw[refB_no hi1 p1 p2,show steps (stpsL P)=PV.slice 3 (P.map encJ) from by rw[stpsL_enc]] at hr1
        rw[refB_no hi2 p1 p2] at hr2
        (refine Q264 ?_)
        (apply ends_ret;(exact Res.one (.tmp rfl rfl));(refine Le.litB ?_;(rfl)))
       ·simp only at e2
        subst e2
        (refine Q216 ?_;refine AOps.neq rfl rfl rfl rfl rfl ?_;refine Q170 ?_;(iterate 2 refine zm ?_);refine Q231 ?_;refine Q124 ?_)
        (apply ends_ret;(exact Res.one (.tmp rfl rfl));(refine Le.litB ?_;(rfl)))
      |false=>
       rw[hb] at hr
       (refine Q300 ?_;refine Q218 ?_;refine AW.stopS 19 ?_)
       refine Stop.go ?_
       have hl0:0<cl.length:=by omega
       have hl1:0<(cl.length:Int):=by omega
       have hm0:0≤k % (cl.length:Int):=Int.emod_nonneg _ (by omega)
       have hm1:k % (cl.length:Int)<cl.length:=Int.emod_lt_of_pos _ (by omega)
       have hm2:(k % (cl.length:Int)).toNat≤cl.length:=by omega
       have hm3:(k % (cl.length:Int)+1).toNat≤cl.length:=by omega
       (refine Q242 ?_;show AOps .held _ _ _ [_,_,_,_,_,_] _ _;refine Q87 ?_;refine Q70 ?_;refine zm ?_;refine AOps.slice_toI rfl rfl rfl rfl rfl rfl rfl (by omega) (by omega) ?_;refine Q4 ?_;intro k_ hk_;refine nz ?_;apply AR.cut [6,5,4,3,1,0,2,7,8,9];intro hJ_0;apply AR.cut [6,5,4,3,1,0,2,9];intro hJ_1;(refine AR.step2M (i:=2) (j:=9) rfl (by kernel_rfl) rfl rfl ?_ ?_<;>intro g_ hgro_ hw_);refine AOps.bs0 rfl rfl rfl rfl rfl ?_;refine Q159 ?_;(refine AR.step2M (i:=7) (j:=9) rfl (by kernel_rfl) rfl rfl ?_ ?_<;>intro g_ hgro_ hw_);(with_reducible apply AOps.appendS);exact rfl;(first|exact .pv rfl|exact .own rfl|exact .nil rfl);(iterate 9 exact rfl);(first|omega|(simp only[List.length_map,List.length_append,List.length_cons,List.length_nil,List.length_drop,List.length_take,List.length_set,List.length_range,chunk_len];omega));refine Q280 ?_;intro g_ hgro_ hw_;refine Q207 ?_;exact Q151;refine Q207 ?_;exact Q215;refine Q123 ?_;refine Q4 ?_;refine AR.step1M (i:=2) rfl (by kernel_rfl) rfl ?_;intro g_ hgro_ hw_;exact Q171;refine AR.step1M (i:=7) rfl (by kernel_rfl) rfl ?_;intro g_ hgro_ hw_;(with_reducible apply AOps.appendS);exact rfl;(first|exact .pv rfl|exact .own rfl|exact .nil rfl);(iterate 9 exact rfl);(first|omega|(simp only[List.length_map,List.length_append,List.length_cons,List.length_nil,List.length_drop,List.length_take,List.length_set,List.length_range,chunk_len];omega));refine Q159 ?_;exact Q141;refine Q285 ?_;intro g_ hgro_ hwt2_;refine zB ?_;refine Q159 ?_;refine Q29 ?_;refine zo ?_;refine AW.regionM [0,1,2,3,4,5,6] [9] rfl (by assumption) (by kernel_rfl) (by kernel_rfl) rfl ?_;show AOps .held _ _ _ [_,_,_,_,_,_,_] _ _;(iterate 2 refine Q70 ?_);refine zm ?_;refine zj ?_;refine Q155 ?_;refine Q4 ?_;intro k_ hk_;refine nz ?_;refine AR.step1M (i:=7) rfl (by kernel_rfl) rfl ?_;intro g_ hgro_ hw_;(with_reducible apply AOps.appendS);exact rfl;(first|exact .pv rfl|exact .own rfl|exact .nil rfl);(iterate 9 exact rfl);(first|omega|(simp only[List.length_map,List.length_append,List.length_cons,List.length_nil,List.length_drop,List.length_take,List.length_set,List.length_range,chunk_len];omega));refine Q159 ?_;refine AR.readsM [8] (by kernel_rfl) (by kernel_rfl) (by kernel_rfl) (by kernel_rfl) ?_;intro g_ hgro_;show AOps .held _ _ _ [_] _ _;refine AOps.fieldAddrN 24 1 1 rfl rfl rfl rfl ?_;refine Q4 ?_;intro k_ hk_;refine nz ?_;refine Q175 ?_;intro g_ hgro_ hwt2_;refine Q277 ?_;refine Q29 ?_;refine AW.stopS 22 ?_)
       refine Stop.go ?_
       refine AW.frzI 1 rfl ?_
       (try refine nz ?_)
       obtain⟨G,hG⟩:∃G,G=cl.take (k % (cl.length:Int)).toNat++cl.drop (k % (cl.length:Int)+1).toNat:=⟨_,rfl⟩
       have hles:([]:List (List PV))++List.map (fun c=>[ints c]) (cl.take (k % (cl.length:Int)).toNat)++List.map (fun c=>[ints c]) (cl.drop (k % (cl.length:Int)+1).toNat)=G.map fun c=>[ints c]:=by
        rw[hG,List.map_append];rfl
       rw[hles]
       have hGs:∀c∈G,c∈cl:=fun c hc=>by
        rw[hG] at hc
        exact(List.mem_append.1 hc).elim List.mem_of_mem_take List.mem_of_mem_drop
       have hGl:G.length≤1000:=by rw[hG,List.length_append,List.length_take,List.length_drop];omega
       have hGw:∀c∈G,withinM n c=true∧c.length≤1000:=fun c hc=>⟨(hclw c (hGs c hc)).1,by have:=(hclw c (hGs c hc)).2;omega⟩
       have h2:=solved_fn n G [] (by omega) (by omega) (fun c hc=>hlitc c (hGs c hc)) (by simp) (by simp)
       clear hles hG
       (refine zq ?_;refine Q179 ?_;(with_reducible apply AOps.callR (hf:=h2));(with_reducible assumption);(iterate 3 exact rfl);(repeat (first|exact trivial|refine⟨rfl,?_⟩));(repeat (first|exact .nil|(refine .cons ?_ ?_;(first|exact .eq rfl rfl|exact .nil _|exact .any _))));(intro x_;exact rfl);exact rfl;(repeat (first|exact trivial|refine⟨rfl,?_⟩|refine⟨obIds_set,?_⟩));(intro x_;(repeat (first|exact trivial|refine⟨rfl,?_⟩|refine⟨obIds_set,?_⟩)));(intro x_;exact rfl);exact rfl;(intro x_ hx_);refine Q1 ?_;refine nz ?_;refine Q143 ?_;refine Q174 ?_;refine AW.stopS 23 ?_)
       obtain⟨k2,vals2,core2,P2⟩:=x_
       have hs2:=hx_
       simp only at hs2 ⊢
       refine Stop.go ?_
       rcases hs2.one hn8 with e2|e2
       ·obtain⟨p1,p2⟩:=hs2.satv e2
        simp only at e2
        subst e2
        have hi1:=hs1.inC hn8 hGw hGl
        have hi2:InC n G [] l:=⟨by omega,hGw,hGl,⟨by simp,fun c hc=>by simp at hc⟩,hin.hl,hin.h20⟩
        have hr1:Fn Try.prog 9 [fml (n:Nat) G,.pv (intss []),.pv (steps (stpsL P))] (litB (refB n G [] (stpsL P))):=refutes_fn n G [] (stpsL P) hi1
        have hr2:Fn Try.prog 9 [fml (n:Nat) G,.pv (intss []),.pv (steps l)] (litB (refB n G [] l)):=refutes_fn n G [] l hi2
        rw[refB_no hi1 p1 p2,show steps (stpsL P)=PV.slice 3 (P.map encJ) from by rw[stpsL_enc]] at hr1
        rw[refB_no hi2 p1 p2] at hr2
        (refine Q264 ?_)
        (apply ends_ret;(exact Res.one (.tmp rfl rfl));(refine Le.litB ?_;(rfl)))
       ·simp only at e2
        subst e2
        (refine Q216 ?_;refine AOps.neq rfl rfl rfl rfl rfl ?_;refine Q170 ?_;(iterate 2 refine zm ?_);refine Q231 ?_;refine Q124 ?_)
        (apply ends_ret;(exact Res.one (.tmp rfl rfl));(refine Le.litB ?_;(rfl)))
  ·refine Fn.enter (n:=139) Try.func3 rfl rfl rfl rfl rfl (by decide) fun g hro_ hwt_=>?_;(try refine nz ?_)
   (refine Q182 ?_;refine zm ?_;refine Q133 ?_;refine zn ?_;refine Q81 ?_;(iterate 2 refine Q144 ?_);refine zn ?_;refine Q73 ?_;refine Q160 ?_;refine Q216 ?_;refine Q124 ?_)
   (apply ends_ret;(exact Res.one (.tmp rfl rfl));(refine Le.litB ?_;(rfl)))
 ·refine Fn.enter (n:=139) Try.func3 rfl rfl rfl rfl rfl (by decide) fun g hro_ hwt_=>?_;(try refine nz ?_)
  (refine Q182 ?_;refine zm ?_;refine Q133 ?_;refine zn ?_;refine Q81 ?_;refine zm ?_;(iterate 3 refine AOps.guardFn rfl rfl rfl rfl rfl rfl (by first|omega|decide) ?_);refine zT ?_;refine Q170 ?_;refine zm ?_;refine Q124 ?_)
  (apply ends_ret;(exact Res.one (.tmp rfl rfl));(refine Le.litB ?_;(rfl)))
end Go.Ab
namespace Go.Proofs.Ytigjjjpcjnifhaa.Law1
open Go Go.Ab Go.ChangeShapes Go.WideShapes Go.ChangeAt Go.RowKit
set_option linter.unusedVariables false
theorem own:ownKnob Try.prog.godebug=none:=by kernel_rfl
theorem laidOut:laidOutB Try.prog=true:=by kernel_rfl
theorem rdInts:Rd Try.prog 28 (fun l:List Int=>[ints l]) (fun _=>True):=
 Rd.map (Rd.slice (e:=3) (k:=1) (by':=8) Try.underlying28 (by kernel_rfl) (by decide) (by kernel_rfl) (by decide) (fun _=>rfl) (Rd.int Try.underlying3)) id (fun _=>rfl) (fun _ _=>trivial)
theorem rdIntss:Rd Try.prog 22 (fun l:List (List Int)=>[intss l]) (fun l=>l.length*24≤reachBytes):=
 Rd.map (Rd.slice (e:=28) (k:=1) (by':=24) Try.underlying22 (by kernel_rfl) (by decide) (by kernel_rfl) (by decide) (fun _=>rfl) rdInts) id (fun _=>rfl) (fun _ h=>h.1)
theorem rdCNF:Rd Try.prog 24 (fun p:Int×List (List Int)=>[.lit (.int .i64 p.1),intss p.2]) (fun _=>True):=
 Rd.map (Rd.struct (n:=2) Try.underlying24 (by kernel_rfl) (RdF.cons (k:=1) (n:=1) rfl (by kernel_rfl) (Rd.int Try.underlying3) (RdF.cons (k:=1) (n:=0) rfl (by kernel_rfl) rdIntss RdF.nil))) (fun p=>(p.1,p.2.1)) (fun _=>rfl) (fun _ _=>trivial)
theorem rdStep:Rd Try.prog 30 Go.Ab.encS (fun _=>True):=
 Rd.map (Rd.struct (n:=3) Try.underlying30 (by kernel_rfl) (RdF.cons (k:=1) (n:=2) rfl (by kernel_rfl) (Rd.int Try.underlying3) (RdF.cons (k:=1) (n:=1) rfl (by kernel_rfl) rdInts (RdF.cons (k:=1) (n:=0) rfl (by kernel_rfl) (Rd.int Try.underlying3) RdF.nil)))) (fun p=>(⟨p.1,p.2.1,p.2.2.1⟩:StepM)) (fun p=>rfl) (fun _ _=>trivial)
theorem rdSteps:Rd Try.prog 25 (fun l:List StepM=>[steps l]) (fun _=>True):=
 Rd.map (Rd.slice (e:=30) (k:=3) (by':=40) Try.underlying25 (by kernel_rfl) (by decide) (by kernel_rfl) (by decide) (fun _=>rfl) rdStep) id (fun _=>rfl) (fun _ _=>trivial)
theorem wfB_u8 {n:Int} (h:(Lit.int .u8 n).wf=true):0≤n∧n≤255:=by
 have e1:IntKind.u8.min=0:=rfl
 have e2:IntKind.u8.max=255:=rfl
 simp [Lit.wf,e1,e2] at h
 omega
theorem ra_true {N:Nat→Prop} {w:World} {v:Value} (h:RA (pcx N) w v (litB true)):v=.bool true:=by
 cases h with
 |pv h=>cases h;rfl
set_option maxRecDepth 100000 in
theorem lifted (os:Os) (started:os.Started) (H:Type) (enc:TypeId×Value→H):
  ReturnsInHanded {} Try.checked os 3 .any (Rows.topRefutationsAreSoundSpec.pre6 enc Try.prog Try.f3 Rows.topRefutationsAreSoundRow.domain false) (Rows.topRefutationsAreSoundSpec.post enc Try.prog Try.f3 false true false false):=by
 refine returnsInHanded_of_change_sized (C:=Try.checked) own started (by kernel_rfl) Try.func3
  (ChangeSpec.witness6 (enc:=enc) (C:=Try.checked) false ⟨#[], #[.agg #[.int .i64 0,.slice none 0 0],.slice none 0 0,.slice none 0 0,.int .u8 0],[]⟩ 8 (by kernel_rfl) (by kernel_rfl) (by kernel_rfl) (by kernel_rfl)) ?_
 intro W base args ds gs before hval0 hW hcnd hsz _
 have hval:∀(j:Nat) t v,Try.f3.params[j]? =some t→args[j]? =some v→Value.okWide Try.prog W .any base t v:=hval0
 have hW':=hW
 obtain⟨p,q,hA0,hV,rfl,hfz,hnd⟩:=hW
 have hA:DataW.TrodAll enc Try.prog W 0 (fun _=>true) true Try.f3.params.toList args.toList ds p:=hA0
 rw[Try.params3] at hA hval
 obtain⟨v0,vs0,d0,ds0,p0,q0,hargs,rfl,rfl,h0,r0⟩:=trodAll_cons hA
 obtain⟨v1,vs1,d1,ds1,p1,q1,rfl,rfl,rfl,h1,r1⟩:=trodAll_cons r0
 obtain⟨v2,vs2,d2,ds2,p2,q2,rfl,rfl,rfl,h2,r2⟩:=trodAll_cons r1
 obtain⟨v3,vs3,d3,ds3,p3,q3,rfl,rfl,rfl,h3,r3⟩:=trodAll_cons r2
 obtain⟨rfl,rfl,rfl⟩:=trodAll_nil r3
 obtain rfl:args= #[v0,v1,v2,v3]:=by cases args;simp_all
 obtain⟨rfl,rfl⟩:=trodVars_none hV
 have wt:∀(j:Nat) (t:TypeId) (d:DataW H),[24,22,25,5][j]? =some t→[d0,d1,d2,d3][j]? =some d→∀n∈d.weights Try.prog t,n≤reachBytes:=by
  intro j t d ht hd
  have hj:j<4:=(List.getElem?_eq_some_iff.1 ht).1
  refine arg_weights hsz (j:=j) ?_ ?_
  ·rw[List.getElem?_append_left (by rw[Try.params3];exact hj),Try.params3];exact ht
  ·rw[List.getElem?_append_left (by simpa using hj)];exact hd
 obtain⟨cs0,rfl⟩:=Ab.okWide_struct Try.underlying24 (hval 0 24 v0 rfl rfl)
 obtain⟨a1,l1,c1,rfl⟩:=okWide_slice Try.underlying22 (hval 1 22 v1 rfl rfl)
 obtain⟨a2,l2,c2,rfl⟩:=okWide_slice Try.underlying25 (hval 2 25 v2 rfl rfl)
 obtain⟨⟨x0,y0⟩,s0,o0⟩:=arg_agg rdCNF h0 (wt 0 24 d0 rfl rfl) rfl
 obtain⟨x1,s1,o1⟩:=arg_one rdIntss h1 (wt 1 22 d1 rfl rfl) slice_cells
 obtain⟨x2,s2,o2⟩:=arg_one rdSteps h2 (wt 2 25 d2 rfl rfl) slice_cells
 obtain⟨x3,rfl,e3,e3',o3⟩:=open_int Try.underlying5 (hval 3 5 v3 rfl rfl) h3
 have s3:RA (pcx fun _=>True) W (.int .u8 x3) (.pv (.lit (.int .u8 x3))):=.pv (.lit _)
 have lt0:∀x∈p0,x.block<W.heap.size:=by obtain⟨m,hm⟩:=h0;exact DataW.trod_lt m _ _ _ hm
 have lt1:∀x∈p1,x.block<W.heap.size:=by obtain⟨m,hm⟩:=h1;exact DataW.trod_lt m _ _ _ hm
 have lt2:∀x∈p2,x.block<W.heap.size:=by obtain⟨m,hm⟩:=h2;exact DataW.trod_lt m _ _ _ hm
 have lt3:∀x∈p3,x.block<W.heap.size:=by obtain⟨m,hm⟩:=h3;exact DataW.trod_lt m _ _ _ hm
 clear hA0 hval0
 refine((lawRef_fn x0 y0 x1 x2 x3 (wfB_u8 o3)).calls (fun _=>True) W _ (fun _ _=>trivial) rfl ?_).mono fun e W' ⟨v,he,hv,bel⟩=>?_
 ·intro j v av hj hav
  match j,hj,hav with
  |0,hj,hav=>cases hj;cases hav;exact s0
  |1,hj,hav=>cases hj;cases hav;exact s1
  |2,hj,hav=>cases hj;cases hav;exact s2
  |3,hj,hav=>cases hj;cases hav;exact s3
  |j+4,hj,hav=>simp at hav
 ·obtain rfl:=ra_true hv
  subst he
  exact⟨_,rfl,_,_,_,[],_,[],hW',trodAll_mk1 (shut_bool Try.underlying4 _),(trodAll_cons_mk (Below.trod laidOut (by kernel_rfl) (of_decide_eq_true (by kernel_rfl)) h0 bel lt0) (trodAll_cons_mk (Below.trod laidOut (by kernel_rfl) (of_decide_eq_true (by kernel_rfl)) h1 bel lt1) (trodAll_cons_mk (Below.trod laidOut (by kernel_rfl) (of_decide_eq_true (by kernel_rfl)) h2 bel lt2) (trodAll_cons_mk (Below.trod laidOut (by kernel_rfl) (of_decide_eq_true (by kernel_rfl)) h3 bel lt3) trodAll_mk0)))),rfl,bel.frame _,fun h=>by cases h⟩
theorem over:Rows.topRefutationsAreSoundRow.holds Try.pinned (OpenSpec.ofChange Rows.topRefutationsAreSoundSpec):=
 OpenClaim.holds_of_wide 3 Try.f3 rfl rfl rfl rfl rfl rfl rfl ⟨rfl,rfl,rfl,rfl,rfl⟩ rfl rfl rfl rfl rfl (by kernel_rfl) Try.func3 (by kernel_rfl)
  (of_decide_eq_true (by kernel_rfl)) (by unfold Func.isWrapper;first|(rw[if_pos (by decide+kernel)];kernel_rfl)|(rw[if_neg (by decide+kernel)];exact⟨rfl,rfl⟩))
  (fun os started H enc _=>lifted os started H enc)
theorem proved:Rows.TopRefutationsAreSoundSaid:=over
#print axioms proved
end Go.Proofs.Ytigjjjpcjnifhaa.Law1
