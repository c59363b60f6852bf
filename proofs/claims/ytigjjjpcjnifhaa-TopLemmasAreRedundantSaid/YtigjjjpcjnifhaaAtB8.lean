/- The solver: literals checked; a clause added, walked. -/
import Derived.Test.YtigjjjpcjnifhaaAtS9
import Derived.Test.YtigjjjpcjnifhaaAbZ
import Derived.Test.YtigjjjpcjnifhaaAbL3
import Derived.Test.YtigjjjpcjnifhaaAtC3
set_option linter.unusedSimpArgs false
set_option linter.unusedVariables false
namespace Go.Ab
open Go Go.Proofs
open Nat (reduceAdd reduceSub)
set_option maxRecDepth 20000
set_option maxHeartbeats 8000000
attribute [local irreducible] hrow AW AOps thenD inBlockD AR iterEnds roundEndsN inlEnds noGotoD EndsX EndsQ idxI
theorem valid_fn (n:Nat) (s:SR) (l:List Int) (hn:n≤20000) (hv:s.value.length=n+1) (hl:∀x∈l,Lit n x):FnX Try.prog 31 11 (SOb s) [.ptr 0 0,.pv (nums l)] (SOb s) (litB true):=by
 simp only[SOb,SBox]
 refine FnX.enter (n:=17) Try.func31 rfl rfl rfl rfl rfl (by decide) rfl rfl fun g hro_ hwt_=>?_;refine Q25 ?_
 refine AW.len_map 1 rfl fun hlen=>?_
 (refine zq ?_;refine Q259 ?_;refine Q299 ?_;refine AOps.sub rfl rfl rfl rfl rfl (by omega) ?_;refine AOps.allocN' rfl rfl rfl rfl ?_;refine Q0 ?_;(with_reducible apply AOps.store_b1);(iterate 5 exact rfl);(first|exact rfl|assumption|exact o1_ _|exact o2_ _ _|exact o3_ _|exact o4_ _ _);(iterate 3 exact rfl);(with_reducible assumption);refine Q206 ?_;refine zq ?_;refine zm ?_;refine AOps.makeFunc_c rfl rfl rfl ?_;(with_reducible apply AOps.inline (hf:=Try.func53));(with_reducible assumption);(iterate 10 exact rfl);intro g_ hro_ hwt_;refine Q0 ?_;refine zq ?_;refine Q11 ?_;refine Q202 ?_;refine AOps.move_clo rfl rfl rfl ?_;(with_reducible apply AOps.inline (hf:=Try.func69));(with_reducible assumption);(iterate 10 exact rfl);intro g_ hro_ hwt_;refine Q0 ?_;refine Q173 ?_;refine Q40 ?_;refine Q190 ?_)
 (refine Q0 ?_;apply AW.loopR [7,0,1,1006,1005,1004,1000,1001,2014,2013,2005,2004,2000,2001,3000] [11,0,1,2,3,4,5,6,7,8,9,10] (fun k:Nat=>([(8,litI k)]:List (Nat×AV))) (fun k:Nat=>([]:List (Nat×Option Ob))) (fun k:Nat=>k≤l.length) (fun k:Nat=>l.length - k) (0);(conv=>lhs;simp only[Nf.lpR,Nf.all,Nat.reduceBEq,reduceAdd,reduceSub]);(all_goals skip))
 ·exact Nat.zero_le _
 ·exact weak rfl (by(refine⟨.litE (by rfl),?_⟩;refine⟨.litE (by rfl),?_⟩;refine⟨.pvE (by rfl),?_⟩;(iterate 2 refine⟨.eq rfl rfl,?_⟩);refine⟨.pvE (by rfl),?_⟩;refine⟨.litE (by rfl),?_⟩;refine⟨.pvE (by rfl),?_⟩;(iterate 2 refine⟨.eq rfl rfl,?_⟩);refine⟨.pvE (by rfl),?_⟩;refine⟨.eq rfl rfl,?_⟩;refine⟨.litE (by rfl),?_⟩;refine⟨.eq rfl rfl,?_⟩;refine⟨.pvE (by rfl),?_⟩;refine⟨.eq rfl rfl,?_⟩;exact trivial)) (by(refine⟨.box _ rfl ?_,?_⟩;refine⟨.litE (by rfl),?_⟩;exact trivial;refine⟨.box _ rfl ?_,?_⟩;(iterate 3 refine⟨.ownE (by rfl) rfl,?_⟩);refine⟨.litE (by rfl),?_⟩;refine⟨.ownE (by rfl) rfl,?_⟩;refine⟨.litE (by rfl),?_⟩;(iterate 2 refine⟨.ownE (by rfl) rfl,?_⟩);(iterate 3 refine⟨.litE (by rfl),?_⟩);refine⟨.ownE (by rfl) rfl,?_⟩;refine⟨.litE (by rfl),?_⟩;(iterate 2 refine⟨.pvE (by rfl),?_⟩);exact trivial;(iterate 3 refine⟨.row rfl,?_⟩);refine⟨.pool rfl (by rfl),?_⟩;(iterate 2 refine⟨.row rfl,?_⟩);refine⟨.pool rfl (by rfl),?_⟩;refine⟨.row rfl,?_⟩;refine⟨.pool rfl (by rfl),?_⟩;refine⟨.row rfl,?_⟩;exact trivial)) rfl
 rintro k hk
 by_cases hlt:k<l.length
 ·obtain⟨b1,b2,b3⟩:=hl _ (List.getElem_mem hlt)
  have b4:¬l[k]< -((s.value.length:Int) - 1):=by omega
  have b5:¬((s.value.length:Int) - 1)<l[k]:=by omega
  (refine Q266 ?_;refine Q5 ?_;refine Q202 ?_;refine Q259 ?_;refine AOps.move_clo rfl rfl rfl ?_;(iterate 2 refine zm ?_);(focus ((with_reducible apply AOps.index_map);(iterate 7 exact rfl);rotate_left;omega));refine zr ?_;(with_reducible apply AOps.inline (hf:=Try.func61));(with_reducible assumption);(iterate 10 exact rfl);intro g_ hro_ hwt_;refine Q0 ?_;refine zq ?_;refine Q11 ?_;refine Q202 ?_;refine Q179 ?_;refine inlEnds_rpv rfl rfl ?_;refine Q206 ?_;refine zk ?_;refine Q136 ?_;refine Q79 ?_)
  exact⟨k+1,by omega,by omega,weak rfl (by(refine⟨.litE (by rfl),?_⟩;refine⟨.litE (by rfl),?_⟩;refine⟨.pvE (by rfl),?_⟩;(iterate 2 refine⟨.eq rfl rfl,?_⟩);refine⟨.pvE (by rfl),?_⟩;refine⟨.litE (by rfl),?_⟩;refine⟨.pvE (by rfl),?_⟩;(iterate 2 refine⟨.eq rfl rfl,?_⟩);refine⟨.pvE (by rfl),?_⟩;refine⟨.eq rfl rfl,?_⟩;refine⟨.litE (by rfl),?_⟩;refine⟨.eq rfl rfl,?_⟩;refine⟨.pvE (by rfl),?_⟩;refine⟨.eq rfl rfl,?_⟩;exact trivial)) (by(refine⟨.box _ rfl ?_,?_⟩;refine⟨.litE (by rfl),?_⟩;exact trivial;refine⟨.box _ rfl ?_,?_⟩;(iterate 3 refine⟨.ownE (by rfl) rfl,?_⟩);refine⟨.litE (by rfl),?_⟩;refine⟨.ownE (by rfl) rfl,?_⟩;refine⟨.litE (by rfl),?_⟩;(iterate 2 refine⟨.ownE (by rfl) rfl,?_⟩);(iterate 3 refine⟨.litE (by rfl),?_⟩);refine⟨.ownE (by rfl) rfl,?_⟩;refine⟨.litE (by rfl),?_⟩;(iterate 2 refine⟨.pvE (by rfl),?_⟩);exact trivial;(iterate 3 refine⟨.row rfl,?_⟩);refine⟨.pool rfl (by rfl),?_⟩;(iterate 2 refine⟨.row rfl,?_⟩);refine⟨.pool rfl (by rfl),?_⟩;refine⟨.row rfl,?_⟩;refine⟨.pool rfl (by rfl),?_⟩;refine⟨.row rfl,?_⟩;exact trivial)) rfl⟩
 ·(refine Q208 ?_;refine Q40 ?_;refine Q28 ?_;refine inlEnds_rpv rfl rfl ?_;refine Q0 ?_;refine Q256 ?_;refine inlEnds_rpv rfl rfl ?_;refine Q0 ?_;refine AOps.notD rfl rfl rfl ?_;refine Q28 ?_)
  (apply endsX_ret;((exact Res.one (.tmp rfl rfl)));((exact Q76));((exact Q2));exact rfl)
theorem of_litA {n:Nat} {s:SR} (v:s.value=valV n (s.ll 0)) (ht:TrlOk n (s.ll 0)) (hn:n≤20000) {x:Int} (hx:Lit n x) {r:Int} (hr:r=if x∈s.ll 0 then 1 else if -x∈s.ll 0 then -1 else 0):FnX Try.prog 34 11 (SOb s) [.ptr 0 0,litI x] (SOb s) (litI r):=by
 have hl:s.value.length=n+1:=by rw[v,valV_len]
 have:=of_fn s x (by obtain⟨_,_,_⟩:=hx;omega) (by obtain⟨_,_,_⟩:=hx;omega) (by rw[v];exact valV_rng)
 rw[v,of_val hx ht,← hr] at this
 exact this
theorem of_val' {n:Nat} {s:SR} (hs:SInv n s) {x:Int} (hx:Lit n x) {r:Int} (hr:r=if x∈s.ll 0 then 1 else if -x∈s.ll 0 then -1 else 0) (a:Int):FnX Try.prog 34 11 (SOb {s with added:=a}) [.ptr 0 0,litI x] (SOb {s with added:=a}) (litI r):=
 of_litA (s:={s with added:=a}) hs.val hs.trl hs.hn hx hr
theorem addClause_fn (n:Nat) (F:List (List Int)) (k:Nat) (s:SR) (hS:SNew n F k s) (hk:k<60000) (c:List Int) (hc:∀x∈c,Lit n x) (hcl:c.length≤1000000):FnR Try.prog 18 11 (SOb s) [.ptr 0 0,.pv (nums c)] (fun q:SR=>SNew n (F++ [c]) (k+1) q) (fun q=>SOb q) (fun _=>litB true):=by
 have hs:=hS.inv
 have hnn:=hs.hn
 have hll:=hs.trl.len
 have hnc:=hS.ncl
 have hvv:s.value.length=n+1:=by rw[hs.val,valV_len]
 have hval:=valid_fn n s c hnn hvv hc
 have hbk:=back0_fn {s with added:=s.added+1} 0 (by show(s.marks.length:Int)≤0;rw[hS.marks];simp)
 have had:=hS.added
 have had2:¬(60000:Int)≤s.added:=by omega
 simp only[SOb,SBox] at hval hbk ⊢
 refine FnR.enter (n:=84) Try.func18 rfl rfl rfl rfl rfl (by decide) rfl (fun _=>rfl) fun g hro_ hwt_=>?_;refine Q25 ?_
 refine AW.len_map 1 rfl fun hlen=>?_
 (refine Q173 ?_;refine Q168 ?_;refine zm ?_;refine zX (hval) ?_;refine Q87 ?_;refine Q328 ?_;refine Q84 ?_;refine AOps.fieldAddrN 67 4 9 rfl rfl rfl rfl ?_;refine zl ?_;refine zb ?_;refine zl ?_;refine AOps.geq rfl rfl rfl rfl rfl ?_;refine AOps.pick_lf rfl rfl rfl rfl rfl rfl ?_;refine Q116 ?_;refine Q40 ?_;refine Q12 ?_;refine AOps.fieldAddrN 67 4 9 rfl rfl rfl rfl ?_;refine zb ?_;refine zj ?_;refine AOps.nilCheck_ptr rfl rfl rfl ?_;refine AOps.fieldAddrN 67 4 9 rfl rfl rfl rfl ?_;(with_reducible apply AOps.store_b1);(iterate 5 exact rfl);(first|exact rfl|assumption|exact o1_ _|exact o2_ _ _|exact o3_ _|exact o4_ _ _);(iterate 3 exact rfl);(with_reducible assumption);refine Q206 ?_;refine zq ?_;refine Q41 ?_;refine zX (hbk) ?_;refine Q87 ?_;refine zd ?_;refine Q173 ?_;refine Q40 ?_;refine Q190 ?_)
 (refine Q0 ?_;apply AW.loopR [31,30,0,1,1000] [0,1,2,3,4,5,6,7,8,9,10] (fun q:List Int×Nat=>([(5,.own 11 3 1 (q.1.map encI)),(32,litI q.2)]:List (Nat×AV))) (fun q:List Int×Nat=>([(11,some .row)]:List (Nat×Option Ob))) (fun q:List Int×Nat=>AddIn s c q.1 q.2) (fun q:List Int×Nat=>c.length - q.2) ((([]:List Int),(0:Nat)));(conv=>lhs;simp only[Nf.lpR,Nf.all,Nat.reduceBEq,reduceAdd,reduceSub]);(all_goals skip))
 ·exact .start
 ·exact weak rfl (by(refine⟨.nilown _ _ _ rfl rfl,?_⟩;(iterate 2 refine⟨.litE (by rfl),?_⟩);refine⟨.pvE (by rfl),?_⟩;refine⟨.eq rfl rfl,?_⟩;refine⟨.pvE (by rfl),?_⟩;refine⟨.eq rfl rfl,?_⟩;exact trivial)) (by(refine⟨.newrow rfl,?_⟩;refine⟨.box _ rfl ?_,?_⟩;(iterate 3 refine⟨.ownE (by rfl) rfl,?_⟩);refine⟨.litE (by rfl),?_⟩;refine⟨.ownE (by rfl) rfl,?_⟩;refine⟨.litE (by rfl),?_⟩;(iterate 2 refine⟨.ownE (by rfl) rfl,?_⟩);(iterate 3 refine⟨.litE (by rfl),?_⟩);refine⟨.ownE (by rfl) rfl,?_⟩;refine⟨.litE (by rfl),?_⟩;(iterate 2 refine⟨.pvE (by rfl),?_⟩);exact trivial;(iterate 3 refine⟨.row rfl,?_⟩);refine⟨.pool rfl (by rfl),?_⟩;(iterate 2 refine⟨.row rfl,?_⟩);refine⟨.pool rfl (by rfl),?_⟩;refine⟨.row rfl,?_⟩;refine⟨.pool rfl (by rfl),?_⟩;refine⟨.row rfl,?_⟩;exact trivial)) rfl
 rintro⟨l,i⟩ hA
 simp only at hA
 have hi:=hA.hi
 have hlb:l.length≤1000000:=by
  have:=nodup_leI (n:=2*n+2) (l:=l.map idxI) (by
   unfold List.Nodup
   rw[List.pairwise_map]
   exact hA.nd.imp_of_mem fun {a b} ha hb hab e=>hab (idxI_inj (hc a (hA.sub a ha).1) (hc b (hA.sub b hb).1) (by rw[e]))) fun v hv=>by
   obtain⟨a,ha,rfl⟩:=List.mem_map.1 hv
   have:=idxI_lt (hc a (hA.sub a ha).1)
   omega
  simp only[List.length_map] at this
  omega
 by_cases hlt:i<c.length
 ·have hil:(i:Int).toNat<c.length:=by omega
  obtain⟨x,hx⟩:∃x,x=c[i]:=⟨_,rfl⟩
  have hxl:=hc _ (List.getElem_mem hlt)
  have hxm:c[i]∈c:=List.getElem_mem hlt
  rw[← hx] at hxl hxm
  have hxb: -1000000≤x∧x≤1000000:=by obtain⟨_,_,_⟩:=hxl;omega
  have hcn:=contains_fn c (-x)
  have hcl2:=contains_fn l x
  by_cases hneg: -x∈c
  ·have hT:=hS.taut hc (.inl ⟨x,hxm,hneg⟩)
   rw[decide_eq_true hneg] at hcn
   (refine Q73 ?_;(focus ((with_reducible apply AOps.index_map);(iterate 7 exact rfl);rotate_left;omega));refine zr ?_;refine Q61 ?_;(with_reducible apply AW.atS 9);(rw[← hx]);refine Q40 ?_;(iterate 2 refine zm ?_);refine AOps.neg rfl rfl rfl (by omega) ?_;refine zA (hcn) ?_;refine zm ?_;(iterate 6 refine AOps.guard_lf rfl rfl rfl rfl rfl rfl rfl ?_);refine AOps.pick_lt rfl rfl rfl rfl rfl rfl ?_;refine Q43 ?_;refine Q40 ?_;refine Q153 ?_;refine Q17 ?_)
   (apply endsQ_ret (({s with added:=s.added+1}:SR)) (hT);((exact Res.one (.tmp rfl rfl)));((exact Q76));((exact Q2));exact rfl)
  ·rw[decide_eq_false hneg] at hcn
   by_cases hp1:x∈s.ll 0
   ·have hT:=hS.taut hc (.inr ⟨x,hxm,hp1⟩)
    have hof:=of_val' hs hxl (r:=1) (if_pos hp1).symm (s.added+1)
    simp only[SOb,SBox] at hof
    (refine Q73 ?_;(focus ((with_reducible apply AOps.index_map);(iterate 7 exact rfl);rotate_left;omega));refine zr ?_;refine Q61 ?_;(with_reducible apply AW.atS 9);(rw[← hx]);refine Q40 ?_;(iterate 2 refine zm ?_);refine AOps.neg rfl rfl rfl (by omega) ?_;refine zA (hcn) ?_;refine zm ?_;refine Q84 ?_;refine AOps.fieldAddrN 67 0 0 rfl rfl rfl rfl ?_;refine Q91 ?_;refine zX (hof) ?_;refine Q87 ?_;refine Q75 ?_;refine Q43 ?_;refine Q40 ?_;refine Q153 ?_;refine Q17 ?_)
    (apply endsQ_ret (({s with added:=s.added+1}:SR)) (hT);((exact Res.one (.tmp rfl rfl)));((exact Q76));((exact Q2));exact rfl)
   ·by_cases hp2: -x∈s.ll 0
    ·have hof:=of_val' hs hxl (r:= -1) (by rw[if_neg hp1,if_pos hp2]) (s.added+1)
     have hnx:=hA.skip hlt (.inr (by rw[← hx];exact hp2))
     simp only[SOb,SBox] at hof
     (refine Q73 ?_;(focus ((with_reducible apply AOps.index_map);(iterate 7 exact rfl);rotate_left;omega));refine zr ?_;refine Q61 ?_;(with_reducible apply AW.atS 9);(rw[← hx]);refine Q142 ?_;(iterate 4 refine AOps.guard_lf rfl rfl rfl rfl rfl rfl rfl ?_);refine AOps.pick_lf rfl rfl rfl rfl rfl rfl ?_;refine Q67 ?_;refine Q136 ?_;refine Q257 ?_)
     exact Q39
    ·have hof:=of_val' hs hxl (r:=0) (by rw[if_neg hp1,if_neg hp2]) (s.added+1)
     simp only[SOb,SBox] at hof
     by_cases hin:x∈l
     ·rw[decide_eq_true hin] at hcl2
      have hnx:=hA.skip hlt (.inl (by rw[← hx];exact hin))
      (refine Q73 ?_;(focus ((with_reducible apply AOps.index_map);(iterate 7 exact rfl);rotate_left;omega));refine zr ?_;refine Q61 ?_;(with_reducible apply AW.atS 9);(rw[← hx]);refine Q278 ?_;refine Q67 ?_;refine Q136 ?_;refine Q257 ?_)
      exact Q39
     ·rw[decide_eq_false hin] at hcl2
      have hnx:=hA.add hlt (by rw[← hx];exact hin) (by rw[← hx];exact hp1) (by rw[← hx];exact hp2)
      rw[← hx] at hnx
      (refine Q73 ?_;(focus ((with_reducible apply AOps.index_map);(iterate 7 exact rfl);rotate_left;omega));refine zr ?_;refine Q61 ?_;(with_reducible apply AW.atS 9);(rw[← hx]);refine Q278 ?_;refine Q43 ?_;refine Q177 ?_;refine Q226 ?_;(with_reducible apply AOps.bs1);(iterate 5 exact rfl);(first|exact rfl|assumption|exact o1_ _|exact o2_ _ _|exact o3_ _|exact o4_ _ _);exact rfl;exact rfl;refine Q0 ?_;(with_reducible apply AOps.appendS);exact rfl;(first|exact .pv rfl|exact .own rfl|exact .nil rfl);(iterate 9 exact rfl);(first|omega|(simp only[List.length_map,List.length_append,List.length_cons,List.length_nil,List.length_drop,List.length_take,List.length_set,List.length_range,chunk_len];omega));refine Q0 ?_;refine Q149 ?_;refine Q257 ?_)
      exact⟨((l++ [x],i+1):List Int×Nat),hnx,by show c.length - (i+1)<c.length - i;omega,weak rfl (by(refine⟨.ownE (by first|rfl|(rw[List.map_append];rfl)) rfl,?_⟩;refine⟨.litE (by first|rfl|(rw[List.map_append];rfl)),?_⟩;refine⟨.litE (by first|rfl|(rw[List.map_append];rfl)),?_⟩;refine⟨.pvE (by first|rfl|(rw[List.map_append];rfl)),?_⟩;refine⟨.eq rfl rfl,?_⟩;refine⟨.pvE (by first|rfl|(rw[List.map_append];rfl)),?_⟩;refine⟨.eq rfl rfl,?_⟩;exact trivial)) (by(refine⟨.row rfl,?_⟩;refine⟨.box _ rfl ?_,?_⟩;refine⟨.ownE (by first|rfl|(rw[List.map_append];rfl)) rfl,?_⟩;refine⟨.ownE (by first|rfl|(rw[List.map_append];rfl)) rfl,?_⟩;refine⟨.ownE (by first|rfl|(rw[List.map_append];rfl)) rfl,?_⟩;refine⟨.litE (by first|rfl|(rw[List.map_append];rfl)),?_⟩;refine⟨.ownE (by first|rfl|(rw[List.map_append];rfl)) rfl,?_⟩;refine⟨.litE (by first|rfl|(rw[List.map_append];rfl)),?_⟩;refine⟨.ownE (by first|rfl|(rw[List.map_append];rfl)) rfl,?_⟩;refine⟨.ownE (by first|rfl|(rw[List.map_append];rfl)) rfl,?_⟩;refine⟨.litE (by first|rfl|(rw[List.map_append];rfl)),?_⟩;refine⟨.litE (by first|rfl|(rw[List.map_append];rfl)),?_⟩;refine⟨.litE (by first|rfl|(rw[List.map_append];rfl)),?_⟩;refine⟨.ownE (by first|rfl|(rw[List.map_append];rfl)) rfl,?_⟩;refine⟨.litE (by first|rfl|(rw[List.map_append];rfl)),?_⟩;refine⟨.pvE (by first|rfl|(rw[List.map_append];rfl)),?_⟩;refine⟨.pvE (by first|rfl|(rw[List.map_append];rfl)),?_⟩;exact trivial;(iterate 3 refine⟨.row rfl,?_⟩);refine⟨.pool rfl (by first|rfl|(rw[List.map_append];rfl)),?_⟩;(iterate 2 refine⟨.row rfl,?_⟩);refine⟨.pool rfl (by first|rfl|(rw[List.map_append];rfl)),?_⟩;refine⟨.row rfl,?_⟩;refine⟨.pool rfl (by first|rfl|(rw[List.map_append];rfl)),?_⟩;refine⟨.row rfl,?_⟩;exact trivial)) rfl⟩
 ·obtain rfl:i=c.length:=by omega
  by_cases h0:l=[]
  ·subst h0
   have hT:=hS.empty hc hA
   (refine Q229 ?_;refine AW.cond_lt rfl rfl ?_;refine Q177 ?_;refine Q212 ?_;(with_reducible apply AOps.store_b1);(iterate 5 exact rfl);(first|exact rfl|assumption|exact o1_ _|exact o2_ _ _|exact o3_ _|exact o4_ _ _);(iterate 3 exact rfl);(with_reducible assumption);refine Q0 ?_;refine Q236 ?_;refine zq ?_;refine Q28 ?_)
   (apply endsQ_ret (({s with added:=s.added+1,broken:=true}:SR)) (hT);((exact Res.one (.tmp rfl rfl)));((exact Q76));((exact Q2));exact rfl)
  ·have hlp:0<l.length:=List.length_pos_iff.2 h0
   have hz0:(0:Int).toNat<l.length:=show 0<_ by omega
   by_cases h1:l.length=1
   ·have e1:=one_eq h1 hz0
    have hm0:=hc _ (hA.sub _ (List.getElem_mem hz0)).1
    have hT:=fun h:Value=>hS.unit hc (by rw[← e1];exact hA) h
    have hpu:=push_fn {s with added:=s.added+1} l[(0:Int).toNat] (-1) (by obtain⟨_,_,_⟩:=hm0;omega) (by obtain⟨_,_,_⟩:=hm0;show _<(s.value.length:Int)∧_<(s.value.length:Int);omega) (by show s.level.length=s.value.length;rw[hs.lvl,hvv]) (by show s.reason.length=s.value.length;rw[hs.rsn,hvv]) (by show(s.ll 0).length≤_;omega) (by show s.marks.length≤_;rw[hS.marks];simp)
    simp only[SOb,SBox] at hpu
    (refine Q229 ?_;refine zk ?_;refine Q40 ?_;refine Q192 ?_;refine zc ?_;refine Q99 ?_;show AOps .held _ _ _ [_,_,_,_,_] _ _;refine Q41 ?_;refine AOps.move_own rfl rfl rfl ?_;refine Q112 ?_;refine Q4 ?_;intro k_ hk_;refine Q100 ?_;intro g_ hgro_ hw_;(focus ((with_reducible apply AOps.load_o1_mapI);(iterate 4 exact rfl);(focus (intro h_;cases h_;done));rotate_left;(first|omega|exact Nat.zero_lt_one|(simp;done))));refine Q102 ?_;intro g_ hgro_ hwt2_;(with_reducible apply AOps.callR (hf:=hpu));(with_reducible assumption);(iterate 3 exact rfl);(repeat (first|exact trivial|refine⟨rfl,?_⟩));(repeat (first|exact .nil|(refine .cons ?_ ?_;(first|exact .eq rfl rfl|exact .nil _|exact .any _))));(intro x_;exact rfl);exact rfl;(repeat (first|exact trivial|refine⟨rfl,?_⟩|refine⟨obIds_set,?_⟩));(intro x_;(repeat (first|exact trivial|refine⟨rfl,?_⟩|refine⟨obIds_set,?_⟩)));(intro x_;exact rfl);exact rfl;(intro x_ hx_);refine Q87 ?_;refine Q31 ?_;refine inBlockD_n ?_;refine thenD_n ?_;refine zq ?_;refine Q28 ?_)
    (apply endsQ_ret ((pushS {s with added:=s.added+1} l[(0:Int).toNat] (-1) x_:SR)) (hT x_);((exact Res.one (.tmp rfl rfl)));((exact Q76));((exact Q2));exact rfl)
   ·have h2:2≤l.length:=by omega
    (refine Q229 ?_;refine zk ?_;refine Q40 ?_;refine Q192 ?_;refine zk ?_;refine AW.stopR 15 ?_)
    refine Stop.go ?_
    refine AW.plI_adopt 7 11 s.nc 5 (us:=l) rfl rfl rfl rfl (hs.fresh s.nc (Nat.le_refl _)).2 fun v_ hv_=>?_
    (try (conv=>rhs;simp only[Nf.s1R,Nf.all,Nat.reduceBEq,reduceAdd,reduceSub]))
    have hT:=fun h1 h3:Value=>hS.att hc hk hA h2 v_ h1 h3
    have hlit:∀x∈l,Lit n x:=fun x hx=>hc x (hA.sub x hx).1
    have m0:=hlit _ (c0_mem h2).1
    have m1:=hlit _ (c0_mem h2).2
    have hne:c0 l≠c1 l:=fun e=>by
     rw[show c0 l=l[0] from getD_get (by omega),show c1 l=l[1] from getD_get (by omega)] at e
     have:=(List.getElem_inj hA.nd (h₀:=by omega) (h₁:=by omega)).1 e
     omega
    have i0:=idxI_lt m0
    have i1:=idxI_lt m1
    have hdl:(l.drop 2).length≤1000000:=by rw[List.length_drop];omega
    have hnw:=hs.nw
    have hwx:=hs.wlen m0
    have hwy:=hs.wlen m1
    have hid:idxI (c0 l)≠idxI (c1 l):=fun e=>hne (idxI_inj m0 m1 (by rw[e]))
    obtain⟨_,_,_⟩:=m0
    obtain⟨_,_,_⟩:=m1
    have hat:=attach2_fn {s with added:=s.added+1,hc:=fset s.hc s.nc v_,cl:=fset s.cl s.nc l} (c0 l) (c1 l) (l.drop 2) (by show fset s.cl s.nc l s.nc=_;rw[fset_same];exact two_eq h2) hid (by show 0≤idxI (c0 l)∧_<s.nw;omega) (by show 0≤idxI (c1 l)∧_<s.nw;omega) (by omega) (by omega) (by show s.nc≤_;omega) (by show(s.wl _).length≤_;omega) (by show(s.wl _).length≤_;omega) (by show s.nw≤_;omega) hdl
    simp only[SOb,SBox,fset_same,watchS] at hat
    rw[hrow_same s.nc s.hc v_]
    (refine AW.region ?_;refine Q336 ?_;(with_reducible apply AOps.callR (hf:=hat));(with_reducible assumption);(iterate 3 exact rfl);(repeat (first|exact trivial|refine⟨rfl,?_⟩));(repeat (first|exact .nil|(refine .cons ?_ ?_;(first|exact .eq rfl rfl|exact .nil _|exact .any _))));(intro x_;exact rfl);exact rfl;(repeat (first|exact trivial|refine⟨rfl,?_⟩|refine⟨obIds_set,?_⟩));(intro x_;(repeat (first|exact trivial|refine⟨rfl,?_⟩|refine⟨obIds_set,?_⟩)));(intro x_;exact rfl);exact rfl;(intro x_ hx_);refine Q1 ?_;refine Q236 ?_;refine zq ?_;refine Q28 ?_)
    (apply endsQ_ret ((attS {s with added:=s.added+1} l v_ x_.1 x_.2:SR)) (hT x_.1 x_.2);((exact Res.one (.tmp rfl rfl)));((exact Q76));((exact Q2));exact rfl)
end Go.Ab
/- What a search leaves;the invariant of its loop. -/
namespace Go.Ab
open Go Go.Proofs
structure SolveOut (n:Nat) (F:List (List Int)) (A:List Int) (fuel:Nat) (t:SR) (k:Int):Prop where
 hn:n≤20000
 prf:Chain F t.proof
 lits:∀c∈F++t.proof,∀x∈c,Lit n x
 plen:t.proof.length≤3 ^ n
 plen2:t.proof.length≤20000
 nd:∀c∈t.proof,c.Nodup
 res:(k=1∧∃L,t.model=valV n L∧t.core=[]∧Least n F A L)∨(k=2∧t.model=[]∧∃P,t.proof=P++ [t.core.map fun y=> -y]∧(∀y∈t.core,y∈A)∧t.core.Nodup∧∀y∈t.core,Lit n y)∨(k=0∧t.model=[]∧t.core=[]∧(fuel<3 ^ n∨20000<3 ^ n))
def LV (A:List Int) (s:SR):Prop:=∀l:Nat,A.length<l→l≤s.marks.length→∃x∈s.ll 0,levOf s x=(l:Int)
theorem pigeon {a:Nat}:∀{b:Nat} {S:List Int},(∀l:Nat,a<l→l≤b→(l:Int)∈S)→b≤a+S.length
 |0,_,_=>by omega
 |b+1,S,h=>by
  by_cases e:b+1≤a
  ·omega
  ·have hm:=h (b+1) (by omega) (Nat.le_refl _)
   have:=pigeon (b:=b) (S:=S.erase ((b+1:Nat):Int)) fun l h1 h2=>(List.mem_erase_of_ne (by omega)).2 (h l h1 (by omega))
   rw[List.length_erase_of_mem hm] at this
   have:0<S.length:=List.length_pos_of_mem hm
   omega
section
variable {n:Nat} {F:List (List Int)} {A:List Int} {P0 N0:Nat} {s:SR} {met:Nat}
theorem LV.len (h:LV A s) (hs:SInv n s):s.marks.length≤A.length+n:=by
 have:=pigeon (a:=A.length) (b:=s.marks.length) (S:=(s.ll 0).map (levOf s)) fun l h1 h2=>by
  obtain⟨x,hx,e⟩:=h l h1 h2
  exact List.mem_map.2 ⟨x,hx,e⟩
 rw[List.length_map] at this
 have:=hs.trl.len
 omega
theorem LV.prop {t:SR} {r:Int} (h:LV A s) (hs:SInv n s) (hp:POut n s t r):LV A t:=fun l h1 h2=>by
 rw[hp.ext.marks] at h2
 obtain⟨x,hx,e⟩:=h l h1 h2
 obtain⟨ys,ell⟩:=hp.ext.ll
 exact⟨x,by rw[ell];exact List.mem_append.2 (.inl hx),by rw[lev_ext hs hp.inv hp.ext hx];exact e⟩
theorem LV.dec0 (hA:s.marks.length<A.length):LV A (markS s):=fun l h1 h2=>by
 have h2:l≤(s.marks++ [((s.ll 0).length:Int)]).length:=h2
 simp only[List.length_append,List.length_singleton] at h2
 omega
theorem LV.dec1 {x:Int} {hv:Value} (h:LV A s) (hi:SInv n (pushS (markS s) x (-1) hv)) (hs:SInv n s) (hh:s.head=((s.ll 0).length:Int)) (hx:Lit n x) (h1:x∉s.ll 0) (h2: -x∉s.ll 0):LV A (pushS (markS s) x (-1) hv):=fun l q1 q2=>by
 have hll:(pushS (markS s) x (-1) hv).ll 0=s.ll 0++ [x]:=ll_push _ _ _ _
 have q2:l≤(s.marks++ [((s.ll 0).length:Int)]).length:=q2
 simp only[List.length_append,List.length_singleton] at q2
 by_cases e:l≤s.marks.length
 ·obtain⟨y,hy,ey⟩:=h l q1 e
  exact⟨y,by rw[hll];exact List.mem_append.2 (.inl hy),(levOf_push (s:=markS s) (var_ne (n:=n) h1 h2 (.inl hy))).trans ey⟩
 ·obtain rfl:l=s.marks.length+1:=by omega
  refine⟨x,by rw[hll];simp,?_⟩
  rw[levOf_pushed (hs.mark hh) hx]
  show(((s.marks++ [_]).length:Nat):Int)=_
  simp
theorem LV.cut (h:LV A s) (hs:SInv n s) {t:Nat} (ht:t<s.marks.length):∀l:Nat,A.length<l→l≤t→∃x∈(undoS s t).ll 0,levOf s x=(l:Int):=fun l q1 q2=>by
 obtain⟨x,hx,e⟩:=h l q1 (by omega)
 obtain⟨i,hi,rfl⟩:=List.getElem_of_mem hx
 have:=(hs.lev_back ht hi).1 (by omega)
 rw[(undo_ll hs ht).1]
 exact⟨_,List.mem_take_iff_getElem.2 ⟨i,by omega,rfl⟩,e⟩
structure SJ (n:Nat) (F:List (List Int)) (A:List Int) (N0 fuel:Nat) (s:SR) (met:Nat):Prop where
 si:SI n F A 0 N0 s met
 lv:LV A s
 model:s.model=[]
 core:s.core=[]
 mf:met<fuel
 nd:∀c∈s.proof,c.Nodup
theorem headS_id (hs:SInv n s):headS s=s:=by
 have:=hs.hd
 show({s with head:=min s.head ((s.ll 0).length:Int)}:SR)=s
 rw[Int.min_eq_left (by omega)]
theorem SNew.sj {k fuel:Nat} (h:SNew n F k s) (hf:0<fuel):SJ n F A k fuel {s with core:=[],model:=[]} 0:=by
 have h2:SNew n F k {s with core:=[],model:=[]}:=
  {inv:={hn:=h.inv.hn,trl:=h.inv.trl,val:=h.inv.val,lvl:=h.inv.lvl,rsn:=h.inv.rsn,hd:=h.inv.hd,mrk:=h.inv.mrk,lev:=h.inv.lev,cls:=h.inv.cls,fresh:=h.inv.fresh,nc:=h.inv.nc,nw:=h.inv.nw,wt:=h.inv.wt,wnd:=h.inv.wnd,wto:=h.inv.wto,two:=h.inv.two,srt:=h.inv.srt,rea:=h.inv.rea}
   sem:=⟨h.sem.lits,h.sem.cls,h.sem.lev0,h.sem.bad,h.sem.prf,h.sem.rep⟩
   low:=h.low,marks:=h.marks,proof:=h.proof,added:=h.added,ncl:=h.ncl}
 exact⟨h2.si A,fun l _ h1=>by have h1:l≤s.marks.length:=h1;rw[h.marks] at h1;simp at h1;omega,rfl,rfl,hf,fun c hc=>by have hc:c∈s.proof:=hc;rw[h.proof] at hc;simp at hc⟩
theorem SJ.prop {N0 fuel:Nat} {t:SR} {r:Int} (h:SJ n F A N0 fuel s met) (hp:POut n s t r):SJ n F A N0 fuel t met:=
 ⟨h.si.prop hp,h.lv.prop h.si.inv hp,by rw[hp.ext.model];exact h.model,by rw[hp.ext.core];exact h.core,h.mf,by rw[hp.ext.proof];exact h.nd⟩
theorem SJ.learn {N0 fuel:Nat} {j:Nat} {v:Value} {l:List Int} {to:Int} {q:SR} (h:SJ n F A N0 fuel s met) (ha:AOut n s j l to) (hm:0<s.marks.length) (hj:j<s.nc) (hf:∀x∈s.cl j,-x∈s.ll 0) (hN:N0≤60000) (hfl:fuel≤30000) (hq:AssOut (undoS {s with hc:=fset s.hc s.nc v,cl:=fset s.cl s.nc l} to.toNat) q):
  SI n F A 0 N0 q (met+1)∧LV A q∧q.model=[]∧q.core=[]∧∀c∈q.proof,c.Nodup:=by
 have hs:=h.si.inv
 obtain⟨hto,ht,hlt⟩:=ha.lvl hs hm
 have hcut:=h.lv.cut hs ht
 have hcl:(undoS {s with hc:=fset s.hc s.nc v,cl:=fset s.cl s.nc l} to.toNat).cl (undoS {s with hc:=fset s.hc s.nc v,cl:=fset s.cl s.nc l} to.toNat).nc=l:=by
  show fset s.cl s.nc l s.nc=l
  exact fset_same _ _ _
 have hback:=ha.back hs ⟨ht,hlt⟩
 have hnd:∀c∈s.proof++ [l],c.Nodup:=fun c hc=>by
  obtain⟨_,_,_,_,_,_,r5,_⟩:=hback
  rcases List.mem_append.1 hc with hc|hc
  ·exact h.nd c hc
  ·rw[List.mem_singleton.1 hc];exact r5
 rcases hq with ⟨p,hv,e1,e2⟩|⟨l',h1,h2,hv,e0,e1,e2,e3,e4,e5⟩
 ·rw[hcl] at e1
  subst e1
  obtain⟨hto0,hSI⟩:=h.si.learn1 ha hm hj hf hv
  have eq:q=pushS (logS (undoS s to.toNat) [p]) p (-1) hv:=by
   rw[e2,hcl]
   have e3:({undoS {s with hc:=fset s.hc s.nc v,cl:=fset s.cl s.nc [p]} to.toNat with hc:=fset (fset s.hc s.nc v) s.nc (.slice none 0 0),cl:=fset (fset s.cl s.nc [p]) s.nc [],proof:=s.proof++ [[p]]}:SR)=logS (undoS s to.toNat) [p]:=by
    obtain⟨f1,f2⟩:=hs.fresh s.nc (Nat.le_refl _)
    rw[fset_fset,fset_fset]
    have g1:fset s.hc s.nc (.slice none 0 0)=s.hc:=by rw[← f2];exact fset_id _ _
    have g2:fset s.cl s.nc []=s.cl:=by rw[← f1];exact fset_id _ _
    rw[g1,g2];rfl
   exact congrArg (fun z=>pushS z p (-1) hv) e3
  rw[eq]
  refine⟨hSI,fun l h1 h2=>?_,h.model,h.core,hnd⟩
  have h2:l≤(s.marks.take to.toNat).length:=h2
  rw[hto0] at h2
  simp at h2;omega
 ·rw[hcl] at e0 e1 e2 e3 e4 e5
  have hnc:s.nc+1≤100000:=by have:=h.si.ncl;have:=h.mf;omega
  have hSI:=h.si.learn2 ha hm hj hf e0 e1 e2 e3 e4 hnc v h1 h2 hv
  have eq:q=pushS (attS (logS (undoS s to.toNat) l) l' v h1 h2) (c0 l') s.nc hv:=by
   rw[e5]
   have e3:({undoS {s with hc:=fset s.hc s.nc v,cl:=fset s.cl s.nc l} to.toNat with nc:=s.nc+1,cl:=fset (fset s.cl s.nc l) s.nc l',proof:=s.proof++ [l]}:SR)={logS (undoS s to.toNat) l with nc:=s.nc+1,hc:=fset s.hc s.nc v,cl:=fset s.cl s.nc l'}:=by
    rw[fset_fset];rfl
   exact congrArg (fun z=>pushS (watchS (watchS z (c0 l') s.nc h1) (c1 l') s.nc h2) (c0 l') (s.nc:Nat) hv) e3
  rw[eq]
  refine⟨hSI,fun l2 q1 q2=>?_,h.model,h.core,hnd⟩
  have q2:l2≤(s.marks.take to.toNat).length:=q2
  rw[List.length_take] at q2
  obtain⟨x,hx,ex⟩:=hcut l2 q1 (by omega)
  obtain⟨p,rest,r1,r2,r3,r4,_⟩:=hback
  have ec0:c0 l'=p:=by rw[e2,r1];rfl
  refine⟨x,by rw[ll_push];exact List.mem_append.2 (.inl hx),?_⟩
  rw[ec0]
  exact(levOf_push (s:=attS (logS (undoS s to.toNat) l) l' v h1 h2) (var_ne (n:=n) r3 r4 (.inl hx))).trans ex
end
end Go.Ab
/- What the search's endings leave;the least free variable. -/
namespace Go.Ab
open Go Go.Proofs
theorem lowF_spec {v:List Int}:∀{m low:Nat},v.length - low=m→(∀i,low≤i→i<lowF v low→v.getD i 0≠0)∧(lowF v low<v.length→v.getD (lowF v low) 0=0)
 |0,low,h=>by
  rw[lowF_end (by omega)]
  exact⟨fun i h1 h2=>by omega,fun h1=>by omega⟩
 |m+1,low,h=>by
  have hlt:low<v.length:=by omega
  by_cases h0:v[low]=0
  ·rw[lowF_zero hlt h0]
   exact⟨fun i h1 h2=>by omega,fun _=>by rw[getD_get hlt];exact h0⟩
  ·rw[lowF_next hlt h0]
   obtain⟨q1,q2⟩:=lowF_spec (v:=v) (m:=m) (low:=low+1) (by omega)
   refine⟨fun i h1 h2=>?_,q2⟩
   by_cases e:i=low
   ·subst e;rw[getD_get hlt];exact h0
   ·exact q1 i (by omega) h2
theorem val_ne {n:Nat} {L:List Int} {u:Nat} (hu:u≤n):(valV n L).getD u 0≠0↔(u:Int)∈L∨ -(u:Int)∈L:=by
 rw[valV_get L hu]
 by_cases h1:(u:Int)∈L
 ·simp [h1]
 ·by_cases h2: -(u:Int)∈L
  ·simp [h1,h2]
  ·simp [h1,h2]
section
variable {n:Nat} {F:List (List Int)} {A:List Int} {N0 fuel:Nat} {s t:SR} {met:Nat}
theorem SJ.plen (h:SJ n F A N0 fuel s met):s.proof.length=met∧met<3 ^ n:=⟨by have:=h.si.plen;omega,h.si.met_lt⟩
theorem chain_lits {P:List (List Int)} {c:List Int} (h:∀d∈F++P,∀x∈d,Lit n x) (hc:∀x∈c,Lit n x):∀d∈F++(P++ [c]),∀x∈d,Lit n x:=fun d hd=>by
 rw[← List.append_assoc] at hd
 rcases List.mem_append.1 hd with hd|hd
 ·exact h d hd
 ·rw[List.mem_singleton.1 hd];exact hc
theorem nd_snoc {P:List (List Int)} {c:List Int} (h:∀d∈P,d.Nodup) (hc:c.Nodup):∀d∈P++ [c],d.Nodup:=fun d hd=>by
 rcases List.mem_append.1 hd with hd|hd
 ·exact h d hd
 ·rw[List.mem_singleton.1 hd];exact hc
theorem SJ.out0 (h:SJ n F A N0 fuel s met) (hf:fuel≤20000) (hc:Conf (F++s.proof) NoA) (e1:t.proof=s.proof++ [([]:List Int).map fun y=> -y]) (e2:t.core=[]) (e3:t.model=[]):SolveOut n F A fuel t 2:=by
 obtain⟨p1,p2⟩:=h.plen
 have:=h.mf
 exact
  {hn:=h.si.inv.hn
   prf:=by rw[e1];exact h.si.sem.prf.snoc (.inl (hc.cut (fun _ h=>h) fun _ h=>h.elim))
   lits:=by rw[e1];exact chain_lits h.si.sem.lits fun x hx=>by simp at hx
   plen:=by rw[e1,List.length_append,List.length_singleton];omega
   plen2:=by rw[e1,List.length_append,List.length_singleton];omega
   nd:=by rw[e1];exact nd_snoc h.nd (by simp)
   res:=.inr (.inl ⟨rfl,e3,s.proof,by rw[e2];exact e1,by rw[e2];simp,by rw[e2];simp,by rw[e2];simp⟩)}
theorem SJ.outB (h:SJ n F A N0 fuel s met) (hf:fuel≤20000) {x:Int} {core:List Int} (hb:BOut n s x core) (hm:s.marks.length<A.length) (hxA:x∈A) (hx: -x∈s.ll 0) (e1:t.proof=s.proof++ [core.map fun y=> -y]) (e2:t.core=core) (e3:t.model=[]):SolveOut n F A fuel t 2:=by
 obtain⟨p1,p2⟩:=h.plen
 have:=h.mf
 obtain⟨b1,b2,b3⟩:=hb.core h.si hm hxA hx
 exact
  {hn:=h.si.inv.hn
   prf:=by rw[e1];exact h.si.sem.prf.snoc (hb.rup h.si.sem hx)
   lits:=by
    rw[e1]
    refine chain_lits h.si.sem.lits fun y hy=>?_
    obtain⟨z,hz,rfl⟩:=List.mem_map.1 hy
    obtain⟨_,_,_⟩:=b3 z hz
    exact⟨by omega,by omega,by omega⟩
   plen:=by rw[e1,List.length_append,List.length_singleton];omega
   plen2:=by rw[e1,List.length_append,List.length_singleton];omega
   nd:=by rw[e1];exact nd_snoc h.nd (by unfold List.Nodup;rw[List.pairwise_map];exact b2.imp fun hab e=>hab (by omega))
   res:=.inr (.inl ⟨rfl,e3,s.proof,by rw[e2];exact e1,by rw[e2];exact b1,by rw[e2];exact b2,by rw[e2];exact b3⟩)}
theorem SI.outU (h:SI n F A 0 N0 s met) (hnd:∀c∈s.proof,c.Nodup) (hf:fuel≤20000) (hm:met=fuel) (e1:t.proof=s.proof) (e2:t.core=[]) (e3:t.model=[]):SolveOut n F A fuel t 0:=by
 have p1:=h.plen
 have p2:=h.met_lt
 exact
  {hn:=h.inv.hn
   prf:=by rw[e1];exact h.sem.prf
   lits:=by rw[e1];exact h.sem.lits
   plen:=by rw[e1];omega
   plen2:=by rw[e1];omega
   nd:=by rw[e1];exact hnd
   res:=.inr (.inr ⟨rfl,e3,e2,.inl (by omega)⟩)}
theorem SJ.full (h:SJ n F A N0 fuel s met) {low:Nat} (hl:s.low=(low:Int)) (he:lowF s.value low=s.value.length):∀v:Nat,1≤v→v≤n→(v:Int)∈s.ll 0∨ -(v:Int)∈s.ll 0:=fun v h1 h2=>by
 obtain⟨k,q1,q2,q3,q4⟩:=h.si.low
 have hkl:k=low:=by omega
 subst hkl
 by_cases e:v<k
 ·exact q4 v h1 e
 ·have:=(lowF_spec (v:=s.value) (low:=k) rfl).1 v (by omega) (by rw[he,h.si.inv.val,valV_len];omega)
  rw[h.si.inv.val] at this
  exact(val_ne h2).1 this
theorem SJ.outS (h:SJ n F A N0 fuel s met) (hf:fuel≤20000) (hb:s.broken=false) (hh:s.head=((s.ll 0).length:Int)) (hA:A.length≤s.marks.length) (hfull:∀v:Nat,1≤v→v≤n→(v:Int)∈s.ll 0∨ -(v:Int)∈s.ll 0) (e1:t.proof=s.proof) (e2:t.core=[]) (e3:t.model=s.value):SolveOut n F A fuel t 1:=by
 obtain⟨p1,p2⟩:=h.plen
 have:=h.mf
 exact
  {hn:=h.si.inv.hn
   prf:=by rw[e1];exact h.si.sem.prf
   lits:=by rw[e1];exact h.si.sem.lits
   plen:=by rw[e1];omega
   plen2:=by rw[e1];omega
   nd:=by rw[e1];exact h.nd
   res:=.inl ⟨rfl,s.ll 0,by rw[e3];exact h.si.inv.val,e2,h.si.sat hb hh hA hfull⟩}
theorem SInv.setlow (h:SInv n s) (k:Int):SInv n {s with low:=k}:=
 {hn:=h.hn,trl:=h.trl,val:=h.val,lvl:=h.lvl,rsn:=h.rsn,hd:=h.hd,mrk:=h.mrk,lev:=h.lev,cls:=h.cls,fresh:=h.fresh,nc:=h.nc,nw:=h.nw,wt:=h.wt,wnd:=h.wnd,wto:=h.wto,two:=h.two,srt:=h.srt,rea:=h.rea}
theorem SJ.free (h:SJ n F A N0 fuel s met) {low:Nat} (hl:s.low=(low:Int)) (he:lowF s.value low≠s.value.length):∃v:Nat,lowF s.value low=v∧1≤v∧v≤n∧(v:Int)∉s.ll 0∧ -(v:Int)∉s.ll 0∧(∀u:Nat,0<u→u<v→(u:Int)∈s.ll 0∨ -(u:Int)∈s.ll 0)∧SJ n F A N0 fuel {s with low:=(v:Int)} met:=by
 obtain⟨k,q1,q2,q3,q4⟩:=h.si.low
 have hkl:k=low:=by omega
 subst hkl
 have hvl:s.value.length=n+1:=by rw[h.si.inv.val,valV_len]
 obtain⟨b1,b2⟩:=lowF_le (v:=s.value) (low:=k) rfl (by omega)
 obtain⟨c1,c2⟩:=lowF_spec (v:=s.value) (low:=k) rfl
 have hlt:lowF s.value k<s.value.length:=by omega
 have hz:=c2 hlt
 have hno:¬((lowF s.value k:Int)∈s.ll 0∨ -(lowF s.value k:Int)∈s.ll 0):=fun hh=>by
  have:=(val_ne (n:=n) (L:=s.ll 0) (u:=lowF s.value k) (by omega)).2 hh
  rw[← h.si.inv.val] at this
  exact this hz
 have hall:∀u:Nat,0<u→u<lowF s.value k→(u:Int)∈s.ll 0∨ -(u:Int)∈s.ll 0:=fun u h1 h2=>by
  by_cases e:u<k
  ·exact q4 u h1 e
  ·have:=c1 u (by omega) h2
   rw[h.si.inv.val] at this
   exact(val_ne (by omega)).1 this
 refine⟨lowF s.value k,rfl,by omega,by omega,fun hh=>hno (.inl hh),fun hh=>hno (.inr hh),hall,?_⟩
 exact
  {si:=
    {inv:=h.si.inv.setlow _
     sem:=⟨h.si.sem.lits,h.si.sem.cls,h.si.sem.lev0,h.si.sem.bad,h.si.sem.prf,h.si.sem.rep⟩
     dec:=h.si.dec,asm:=h.si.asm,plen:=h.si.plen,ncl:=h.si.ncl,wrd:=h.si.wrd
     low:=⟨lowF s.value k,rfl,by omega,by omega,hall⟩}
   lv:=h.lv,model:=h.model,core:=h.core,mf:=h.mf,nd:=h.nd}
theorem SJ.decF (h:SJ n F A N0 fuel s met) (hh:s.head=((s.ll 0).length:Int)) (hA:A.length≤s.marks.length) {v:Nat} (h1:1≤v) (h2:v≤n) (h3:(v:Int)∉s.ll 0) (h4: -(v:Int)∉s.ll 0) (h5:∀u:Nat,0<u→u<v→(u:Int)∈s.ll 0∨ -(u:Int)∈s.ll 0) (hv:Value):SJ n F A N0 fuel (pushS (markS s) (-(v:Int)) (-1) hv) met:=by
 have hl:Lit n (-(v:Int)):=⟨by omega,by omega,by omega⟩
 have hs:=h.si.dec1 hh hl h4 (by rw[Int.neg_neg];exact h3) hv (fun y hy=>by rw[List.getElem?_eq_none (by omega)] at hy;cases hy) (.inr ⟨hA,v,rfl,h5⟩)
 exact⟨hs,h.lv.dec1 hs.inv h.si.inv hh hl h4 (by rw[Int.neg_neg];exact h3),h.model,h.core,h.mf,h.nd⟩
theorem SJ.decA (h:SJ n F A N0 fuel s met) (hh:s.head=((s.ll 0).length:Int)) (hA:s.marks.length<A.length) (hl:Lit n A[s.marks.length]) (h1:A[s.marks.length]∉s.ll 0) (h2: -A[s.marks.length]∉s.ll 0) (hv:Value):SJ n F A N0 fuel (pushS (markS s) A[s.marks.length] (-1) hv) met:=by
 have hs:=h.si.dec1 hh hl h1 h2 hv (fun y hy=>by rw[List.getElem?_eq_getElem hA] at hy;simpa using hy) (.inl (List.getElem_mem _))
 exact⟨hs,h.lv.dec1 hs.inv h.si.inv hh hl h1 h2,h.model,h.core,h.mf,h.nd⟩
theorem SJ.dec0 (h:SJ n F A N0 fuel s met) (hh:s.head=((s.ll 0).length:Int)) (hA:s.marks.length<A.length) (hx:A[s.marks.length]∈s.ll 0):SJ n F A N0 fuel (markS s) met:=
 ⟨h.si.dec0 hh hA hx,LV.dec0 hA,h.model,h.core,h.mf,h.nd⟩
end
end Go.Ab
