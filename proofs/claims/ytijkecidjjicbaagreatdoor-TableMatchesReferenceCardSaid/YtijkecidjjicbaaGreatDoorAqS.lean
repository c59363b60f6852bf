/- Chapter 34: the scanner's whole text where it does not fit, walked. -/
import Derived.Test.YtijkecidjjicbaaGreatDoorAqP9
import Derived.Test.YtijkecidjjicbaaGreatDoorAbZ
import Derived.Test.YtijkecidjjicbaaGreatDoorAbL3
import Derived.Test.YtijkecidjjicbaaGreatDoorAqP5
import Derived.Tactics
import Derived.Tactics2
import Derived.Defers
import Derived.Recover
import Derived.TacticsInMore
import Derived.RegionIn
import Derived.RecoverIn
set_option linter.unusedSimpArgs false
set_option linter.unusedVariables false
namespace Go.Ab
open Go Go.Proofs
open Nat (reduceAdd reduceSub)
set_option maxRecDepth 20000
set_option maxHeartbeats 4000000
attribute [local irreducible] AW AOps thenD inBlockD AR iterEnds roundEndsN inlEnds noGotoD EndsX EndsP onlyP byteAt
theorem modelN_fn (sp:SpecM) (hb:SpB sp) {s:Bt} (hs:s.length≤1000000) (h:modelP sp s=none):
  FnD errT Tryz.prog 60 24 4 (SB s) [.ptr 3 0,spc sp] SX:=by
 unfold modelP at h
 unfold SB SX
 obtain⟨hq1,hq2,hq3,hq4⟩:=hb
 rcases bind_none h with e1|⟨t1,e1,hA⟩
 ·have k1:=skipN_fn errT [[115,99,111,112,101]] (by omega) (by simp) (by simp) e1
  simp only[wordsV,List.map_cons,List.map_nil,mk_sL] at k1
  unfold SB SX at k1
  clear h
  obtain⟨so,fs,p_,q_⟩:=sp
  refine FnD.enter (n:=129) Tryz.func24 rfl rfl rfl rfl (by decide) rfl rfl fun g hro_ hwt_ hT=>?_;refine j32 ?_
  (refine j319 ?_;(with_reducible apply AOps.callD (hf:=k1));(with_reducible assumption);(first|(with_reducible assumption)|(refine TB.gs ?_ (by with_reducible assumption);with_reducible assumption)|(refine TB.gi ?_ (by with_reducible assumption);with_reducible assumption)|exact TB.none _);(iterate 3 exact rfl);(repeat (first|exact trivial|refine⟨rfl,?_⟩));(repeat (first|exact .nil|(refine .cons ?_ ?_;(first|exact .eq rfl rfl|exact .nil _|exact .any _))));exact rfl;exact rfl;(repeat (first|exact trivial|refine⟨rfl,?_⟩|refine⟨obIds_set,?_⟩));(repeat (first|exact trivial|refine⟨rfl,?_⟩|refine⟨obIds_set,?_⟩));(intro ch_ hch_);refine j241 ?_;refine thenD_pan ?_)
  (apply endsP;(with_reducible assumption);((exact j51));((exact j42));exact rfl)
 clear h
 have l1:=skip_len e1
 have k1:=skipY_fn [[115,99,111,112,101]] (by omega) (by simp) (by simp) e1
 simp only[wordsV,List.map_cons,List.map_nil,mk_sL] at k1
 unfold SB at k1
 have hfld:=fun {t r:Bt} {q:RelM} (ats:List Int) (stv:Int) (hsc:scopeOk sp.sorts.length ats stv=true) (hso:sortsIn sp.sorts.length sp.fields=true) (f:FieldM) (hf:f∈sp.fields) (ht:t.length≤1000000) (hh:lineP sp.sorts ats f t=some (q,r))=>
  let ⟨_,c2,_,_,_,c6,c7⟩:=scopeOk_spec hsc
  fieldY_fn sp f ats stv c7 (by omega) c2.symm (List.all_eq_true.1 hso _ hf) (hq4 _ hf).2 hq2 (hq4 _ hf).1 ht hh
 have hflN:=fun {t:Bt} (ats:List Int) (stv:Int) (hsc:scopeOk sp.sorts.length ats stv=true) (hso:sortsIn sp.sorts.length sp.fields=true) (f:FieldM) (hf:f∈sp.fields) (ht:t.length≤1000000) (hh:lineP sp.sorts ats f t=none)=>
  let ⟨_,c2,_,_,_,c6,c7⟩:=scopeOk_spec hsc
  fieldN_fn sp f ats stv c7 (by omega) c2.symm (List.all_eq_true.1 hso _ hf) (hq4 _ hf).2 hq2 (hq4 _ hf).1 ht hh
 have hvalF:=uValid_fn sp
 obtain⟨so,fs,p_,q_⟩:=sp
 simp only at hq1 hq2 hq3 hq4 hA hfld hflN hvalF ⊢
 obtain⟨G,hG⟩:∃G:List Int×Bt→Option (ModM×Bt),G=fun a=>(skipT [[32,115,116,101,112,115,61]] a.2).bind fun t=>(numT t).bind fun st=>(skipT [[32,108,111,111,112,61]] st.2).bind fun t=>
  (numT t).bind fun lp=>(skipT [[10]] lp.2).bind fun t=>
   if scopeOk so.length a.1 st.1=true∧sortsIn so.length fs=true then (statesP so a.1 fs st.1.toNat 0 [] t).map fun q=>(⟨a.1,st.1,q.1,lp.1⟩,q.2) else none:=⟨_,rfl⟩
 have hA:(atomsP so [] t1).bind G=none:=by rw[hG];exact hA
 refine FnD.enter (n:=129) Tryz.func24 rfl rfl rfl rfl (by decide) rfl rfl fun g hro_ hwt_ hT=>?_;refine j32 ?_
 (refine j319 ?_;refine zX (k1) ?_;refine j292 ?_;refine j62 ?_;refine j97 ?_)
 (refine nz ?_;apply AW.loopR [21,20,5,4,3,0,1000] [5,4] (fun p:Nat×List Int×Bt=>([(22,litI p.1)]:List (Nat×AV))) (fun p:Nat×List Int×Bt=>([(3,some (.box [litS (mkS p.2.2)])),(6,some (.box [.own 20 3 1 (p.2.1.map encI),.pv (.lit (.int .i64 0)),.pv (.lit (.slice none 0 0)),.pv (.lit (.int .i64 0))])),(20,some .row)]:List (Nat×Option Ob))) (fun p:Nat×List Int×Bt=>p.1≤so.length∧p.2.2.length≤1000000∧p.2.1.length=p.1∧(atomsP (so.drop p.1) p.2.1 p.2.2).bind G=none) (fun p:Nat×List Int×Bt=>so.length - p.1) ((0,[],t1));(conv=>lhs;simp only[Nf.lpR,Nf.all,Nat.reduceBEq,reduceAdd,reduceSub]);(all_goals skip))
 ·exact⟨Nat.zero_le _,by show t1.length≤1000000;omega,rfl,hA⟩
 ·exact j78
 rintro⟨k,acc,t⟩ ⟨hk,ht,hac,hP⟩
 simp only at hk ht hac hP ⊢
 clear hA e1 l1 k1
 by_cases hlt:k<so.length
 ·rw[List.drop_eq_getElem_cons hlt,atomsP_c] at hP
  have hz:=hq2 _ (List.getElem_mem hlt)
  have hle:∀w∈ [[32],sL so[k].1,[61]],w.length≤1000000000:=by rintro w hw;simp only[List.mem_cons,List.not_mem_nil,or_false] at hw;rcases hw with rfl|rfl|rfl<;>simp [mk_len]<;>omega
  cases f1:skipT [[32],sL so[k].1,[61]] t with
  |none=>
   have w1:=skipN_fn errT [[32],sL so[k].1,[61]] (by omega) hle (by simp) f1
   simp only[wordsV,List.map_cons,List.map_nil,mk_sL] at w1
   unfold SB SX at w1
   clear hP
   (refine j7 ?_;(focus ((with_reducible apply AOps.index_map);(iterate 7 exact rfl);rotate_left;omega));refine j237 ?_;(with_reducible apply AOps.callD (hf:=w1));(with_reducible assumption);(first|(with_reducible assumption)|(refine TB.gs ?_ (by with_reducible assumption);with_reducible assumption)|(refine TB.gi ?_ (by with_reducible assumption);with_reducible assumption)|exact TB.none _);(iterate 3 exact rfl);(repeat (first|exact trivial|refine⟨rfl,?_⟩));(repeat (first|exact .nil|(refine .cons ?_ ?_;(first|exact .eq rfl rfl|exact .nil _|exact .any _))));exact rfl;exact rfl;(repeat (first|exact trivial|refine⟨rfl,?_⟩|refine⟨obIds_set,?_⟩));(repeat (first|exact trivial|refine⟨rfl,?_⟩|refine⟨obIds_set,?_⟩));(intro ch_ hch_);refine j241 ?_;refine j80 ?_)
   (apply endsP;(with_reducible assumption);((exact j51));((exact j42));exact rfl)
  |some u1=>
   have g1:=skip_len f1
   have w1:=skipY_fn [[32],sL so[k].1,[61]] (by omega) hle (by simp) f1
   simp only[wordsV,List.map_cons,List.map_nil,mk_sL] at w1
   unfold SB at w1
   cases f2:numT u1 with
   |none=>
    have w2:=numberN_fn (by omega) f2
    unfold SB SX at w2
    clear hP
    (refine j7 ?_;(focus ((with_reducible apply AOps.index_map);(iterate 7 exact rfl);rotate_left;omega));refine j237 ?_;refine zX (w1) ?_;refine j102 ?_;refine zd ?_;(refine AW.regionM (List.cons 0 (List.cons 1 (List.cons 2 (List.cons 3 List.nil)))) List.nil rfl (by assumption) (by kernel_rfl) (by kernel_rfl) rfl ?_;show AOps .held _ _ _ (List.cons _ (List.cons _ (List.cons _ (List.cons _ List.nil)))) _ _);refine j112 ?_;refine AOps.move_ptr rfl rfl rfl ?_;refine j6 ?_;intro k_ hk_;refine nz ?_;((with_reducible apply AR.stepD (i:=4));exact rfl;kernel_rfl;exact rfl;(intro g_ hgro_ hwt2_));(with_reducible apply AOps.callD (hf:=w2));(with_reducible assumption);(first|(with_reducible assumption)|(refine TB.gs ?_ (by with_reducible assumption);with_reducible assumption)|(refine TB.gi ?_ (by with_reducible assumption);with_reducible assumption)|exact TB.none _);(iterate 3 exact rfl);(repeat (first|exact trivial|refine⟨rfl,?_⟩));(repeat (first|exact .nil|(refine .cons ?_ ?_;(first|exact .eq rfl rfl|exact .nil _|exact .any _))));exact rfl;exact rfl;(repeat (first|exact trivial|refine⟨rfl,?_⟩|refine⟨obIds_set,?_⟩));(repeat (first|exact trivial|refine⟨rfl,?_⟩|refine⟨obIds_set,?_⟩));(intro ch_ hch_);refine j241 ?_;refine onlyP_1 ?_;refine j326 ?_;refine j254 ?_)
    (apply endsP;(with_reducible assumption);((exact j51));((exact j42));exact rfl)
   |some vu=>
    obtain⟨v,u2⟩:=vu
    have g2:=num_spec f2
    have w2:=numberY_fn (by omega) f2
    unfold SB at w2
    rw[f1,Option.bind_some,f2,Option.bind_some] at hP
    (refine j7 ?_;(focus ((with_reducible apply AOps.index_map);(iterate 7 exact rfl);rotate_left;omega));refine j237 ?_;refine zX (w1) ?_;refine j102 ?_;refine zd ?_;refine AW.regionM [3] [4] rfl (by assumption) (by kernel_rfl) (by kernel_rfl) rfl ?_;show AOps .held _ _ _ [_] _ _;refine AOps.move_ptr rfl rfl rfl ?_;refine j6 ?_;intro k_ hk_;refine j294 ?_;apply AR.cut [1,0,3,2,4,5];intro hJ_0;apply AR.cut [1,0,3,2,4];intro hJ_1;(refine AR.step2L (i:=2) (j:=4) rfl (by kernel_rfl) rfl rfl (by kernel_rfl) ?_ ?_<;>intro g_ hgro_ hwt2_);refine zb ?_;refine j6 ?_;refine AR.step1LM (i:=4) rfl (by kernel_rfl) rfl (by kernel_rfl) ?_;intro g_ hgro_ hwt2_;refine zX (w2) ?_;refine j102 ?_;refine j18 ?_;refine AR.gc [3,21,6,20,5,4] rfl ?_;refine j90 ?_;exact AR.perm (by kernel_rfl) hJ_1;refine zX (w2) ?_;refine j102 ?_;refine j6 ?_;(refine AR.step2LL (i:=2) (j:=5) rfl (by kernel_rfl) rfl rfl (by kernel_rfl) ?_ ?_<;>intro g_ hgro_ hwt2_);refine zb ?_;exact j296;refine j81 ?_;refine j6 ?_;refine AR.step1LM (i:=2) rfl (by kernel_rfl) rfl (by kernel_rfl) ?_;intro g_ hgro_ hwt2_;refine zb ?_;refine j18 ?_;refine AR.gc [23,3,21,6,20,5,4] rfl ?_;refine j90 ?_;exact AR.perm (by kernel_rfl) hJ_0;refine j333 ?_;intro g_ hgro_ hwt2_;exact j264;refine j229 ?_;intro g_ hgro_ hwt2_;(with_reducible apply AOps.appendS);exact rfl;(first|exact .pv rfl|exact .own rfl|exact .nil rfl);(iterate 9 exact rfl);(first|omega|(simp only[List.length_map,List.length_append,List.length_cons,List.length_nil,List.length_drop,List.length_take,List.length_set,chunk_len];omega));refine nz ?_;refine j6 ?_;refine j228 ?_;intro g_ hgro_ hwt2_;refine AOps.fieldAddrN 33 0 0 rfl rfl rfl rfl ?_;refine j6 ?_;refine j227 ?_;intro g_ hgro_ hwt2_;refine AOps.fieldAddrN 30 0 0 rfl rfl rfl rfl ?_;refine j6 ?_;refine j120 ?_;intro g_ hgro_ hwt2_;refine j188 ?_;refine j96 ?_;refine j8 ?_;refine j279 ?_)
    all_goals exact⟨(k+1,_,u2),⟨by omega,by show u2.length≤1000000;omega,by simp;omega,hP⟩,(by show so.length - (k+1)<so.length - k;omega),weak rfl (by(exact j191)) (by(exact j76)) rfl⟩
 obtain rfl:k=so.length:=by omega
 rw[List.drop_length,show atomsP [] acc t=some (acc,t) from rfl,Option.bind_some,hG] at hP
 simp only at hP
 clear hG hlt hk
 rcases bind_none hP with e3|⟨t3,e3,hB⟩
 ·have k3:=skipN_fn errT [[32,115,116,101,112,115,61]] (by omega) (by simp) (by simp) e3
  simp only[wordsV,List.map_cons,List.map_nil,mk_sL] at k3
  unfold SB SX at k3
  clear hP
  (refine j215 ?_;refine j15 ?_;(with_reducible apply AOps.callD (hf:=k3));(with_reducible assumption);(first|(with_reducible assumption)|(refine TB.gs ?_ (by with_reducible assumption);with_reducible assumption)|(refine TB.gi ?_ (by with_reducible assumption);with_reducible assumption)|exact TB.none _);(iterate 3 exact rfl);(repeat (first|exact trivial|refine⟨rfl,?_⟩));(repeat (first|exact .nil|(refine .cons ?_ ?_;(first|exact .eq rfl rfl|exact .nil _|exact .any _))));exact rfl;exact rfl;(repeat (first|exact trivial|refine⟨rfl,?_⟩|refine⟨obIds_set,?_⟩));(repeat (first|exact trivial|refine⟨rfl,?_⟩|refine⟨obIds_set,?_⟩));(intro ch_ hch_);refine j241 ?_;refine thenD_pan ?_)
  (apply endsP;(with_reducible assumption);((exact j51));((exact j42));exact rfl)
 clear hP
 have l3:=skip_len e3
 have k3:=skipY_fn [[32,115,116,101,112,115,61]] (by omega) (by simp) (by simp) e3
 simp only[wordsV,List.map_cons,List.map_nil,mk_sL] at k3
 unfold SB at k3
 rcases bind_none hB with e4|⟨⟨stv,t4⟩,e4,hC⟩
 ·have k4:=numberN_fn (by omega) e4
  unfold SB SX at k4
  clear hB
  (refine j215 ?_;refine j15 ?_;refine zX (k3) ?_;refine j102 ?_;refine zd ?_;refine j86 ?_;(with_reducible apply AOps.callD (hf:=k4));(with_reducible assumption);(first|(with_reducible assumption)|(refine TB.gs ?_ (by with_reducible assumption);with_reducible assumption)|(refine TB.gi ?_ (by with_reducible assumption);with_reducible assumption)|exact TB.none _);(iterate 3 exact rfl);(repeat (first|exact trivial|refine⟨rfl,?_⟩));(repeat (first|exact .nil|(refine .cons ?_ ?_;(first|exact .eq rfl rfl|exact .nil _|exact .any _))));exact rfl;exact rfl;(repeat (first|exact trivial|refine⟨rfl,?_⟩|refine⟨obIds_set,?_⟩));(repeat (first|exact trivial|refine⟨rfl,?_⟩|refine⟨obIds_set,?_⟩));(intro ch_ hch_);refine j241 ?_;refine nz ?_;refine thenD_pan ?_)
  (apply endsP;(with_reducible assumption);((exact j51));((exact j42));exact rfl)
 clear hB
 simp only at hC
 have l4:=num_spec e4
 have k4:=numberY_fn (by omega) e4
 unfold SB at k4
 rcases bind_none hC with e5|⟨t5,e5,hD⟩
 ·have k5:=skipN_fn errT [[32,108,111,111,112,61]] (by omega) (by simp) (by simp) e5
  simp only[wordsV,List.map_cons,List.map_nil,mk_sL] at k5
  unfold SB SX at k5
  clear hC
  (refine j350 ?_;(with_reducible apply AOps.callD (hf:=k5));(with_reducible assumption);(first|(with_reducible assumption)|(refine TB.gs ?_ (by with_reducible assumption);with_reducible assumption)|(refine TB.gi ?_ (by with_reducible assumption);with_reducible assumption)|exact TB.none _);(iterate 3 exact rfl);(repeat (first|exact trivial|refine⟨rfl,?_⟩));(repeat (first|exact .nil|(refine .cons ?_ ?_;(first|exact .eq rfl rfl|exact .nil _|exact .any _))));exact rfl;exact rfl;(repeat (first|exact trivial|refine⟨rfl,?_⟩|refine⟨obIds_set,?_⟩));(repeat (first|exact trivial|refine⟨rfl,?_⟩|refine⟨obIds_set,?_⟩));(intro ch_ hch_);refine j241 ?_;refine thenD_pan ?_)
  (apply endsP;(with_reducible assumption);((exact j51));((exact j42));exact rfl)
 clear hC
 have l5:=skip_len e5
 have k5:=skipY_fn [[32,108,111,111,112,61]] (by omega) (by simp) (by simp) e5
 simp only[wordsV,List.map_cons,List.map_nil,mk_sL] at k5
 unfold SB at k5
 rcases bind_none hD with e6|⟨⟨lpv,t6⟩,e6,hE⟩
 ·have k6:=numberN_fn (by omega) e6
  unfold SB SX at k6
  clear hD
  (refine j350 ?_;refine zX (k5) ?_;refine j102 ?_;refine zd ?_;refine j86 ?_;(with_reducible apply AOps.callD (hf:=k6));(with_reducible assumption);(first|(with_reducible assumption)|(refine TB.gs ?_ (by with_reducible assumption);with_reducible assumption)|(refine TB.gi ?_ (by with_reducible assumption);with_reducible assumption)|exact TB.none _);(iterate 3 exact rfl);(repeat (first|exact trivial|refine⟨rfl,?_⟩));(repeat (first|exact .nil|(refine .cons ?_ ?_;(first|exact .eq rfl rfl|exact .nil _|exact .any _))));exact rfl;exact rfl;(repeat (first|exact trivial|refine⟨rfl,?_⟩|refine⟨obIds_set,?_⟩));(repeat (first|exact trivial|refine⟨rfl,?_⟩|refine⟨obIds_set,?_⟩));(intro ch_ hch_);refine j241 ?_;refine nz ?_;refine thenD_pan ?_)
  (apply endsP;(with_reducible assumption);((exact j51));((exact j42));exact rfl)
 clear hD
 simp only at hE
 have l6:=num_spec e6
 have k6:=numberY_fn (by omega) e6
 unfold SB at k6
 rcases bind_none hE with e7|⟨t7,e7,hF⟩
 ·have k7:=skipN_fn errT [[10]] (by omega) (by simp) (by simp) e7
  simp only[wordsV,List.map_cons,List.map_nil,mk_sL] at k7
  unfold SB SX at k7
  clear hE
  (refine j106 ?_;(with_reducible apply AOps.callD (hf:=k7));(with_reducible assumption);(first|(with_reducible assumption)|(refine TB.gs ?_ (by with_reducible assumption);with_reducible assumption)|(refine TB.gi ?_ (by with_reducible assumption);with_reducible assumption)|exact TB.none _);(iterate 3 exact rfl);(repeat (first|exact trivial|refine⟨rfl,?_⟩));(repeat (first|exact .nil|(refine .cons ?_ ?_;(first|exact .eq rfl rfl|exact .nil _|exact .any _))));exact rfl;exact rfl;(repeat (first|exact trivial|refine⟨rfl,?_⟩|refine⟨obIds_set,?_⟩));(repeat (first|exact trivial|refine⟨rfl,?_⟩|refine⟨obIds_set,?_⟩));(intro ch_ hch_);refine j241 ?_;refine thenD_pan ?_)
  (apply endsP;(with_reducible assumption);((exact j51));((exact j42));exact rfl)
 clear hE
 have l7:=skip_len e7
 have k7:=skipY_fn [[10]] (by omega) (by simp) (by simp) e7
 simp only[wordsV,List.map_cons,List.map_nil,mk_sL] at k7
 unfold SB at k7
 have hval:=hvalF acc stv
 by_cases hsc:scopeOk so.length acc stv=true
 ·rw[hsc] at hval
  obtain⟨b1,b2,b3,b4,b5,b6,b7⟩:=scopeOk_spec hsc
  (refine j106 ?_;refine zX (k7) ?_;refine j292 ?_;refine j100 ?_;(with_reducible apply AOps.load_bs);(iterate 3 exact rfl);(repeat' first|exact Sub.nil|apply Sub.take|apply Sub.skip);(iterate 3 exact rfl);refine zA (hval) ?_;refine j82 ?_;refine j29 ?_;refine j130 ?_;refine j47 ?_;refine j97 ?_)
  (refine nz ?_;apply AW.loopR [67,66,5,4,3,0,1000] [3,6,20,5,4] (fun k:Nat=>([(68,litI k)]:List (Nat×AV))) (fun k:Nat=>([]:List (Nat×Option Ob))) (fun k:Nat=>k≤fs.length∧((fs.drop k).all (fun f=>insB so.length f.sorts)=false∨sortsIn so.length fs=true)) (fun k:Nat=>fs.length - k) (0);(conv=>lhs;simp only[Nf.lpR,Nf.all,Nat.reduceBEq,reduceAdd,reduceSub]);(all_goals skip))
  ·refine⟨Nat.zero_le _,?_⟩
   by_cases hso:sortsIn so.length fs=true
   ·exact .inr hso
   ·exact .inl (eq_false_of_ne_true hso)
  ·exact j77
  rintro k ⟨hk,hor⟩
  by_cases hlt:k<fs.length
  ·have hfl:=(hq4 _ (List.getElem_mem hlt)).2
   rw[List.drop_eq_getElem_cons hlt,List.all_cons] at hor
   (refine j7 ?_;(focus ((with_reducible apply AOps.index_map);(iterate 7 exact rfl);rotate_left;omega));refine j56 ?_;refine zq ?_;refine j57 ?_;refine j97 ?_)
   (refine nz ?_;apply AW.loopR [74,73,68,67,66,5,4,3,0,1000] [3,6,20,5,4] (fun j:Nat=>([(75,litI j)]:List (Nat×AV))) (fun j:Nat=>([]:List (Nat×Option Ob))) (fun j:Nat=>j≤fs[k].sorts.length∧(insB so.length (fs[k].sorts.drop j)=false∨insB so.length fs[k].sorts=true)) (fun j:Nat=>fs[k].sorts.length - j) (0);(conv=>lhs;simp only[Nf.lpR,Nf.all,Nat.reduceBEq,reduceAdd,reduceSub]);(all_goals skip))
   ·refine⟨Nat.zero_le _,?_⟩
    rw[List.drop_zero]
    cases insB so.length fs[k].sorts
    ·exact .inl rfl
    ·exact .inr rfl
   ·exact j68
   rintro j ⟨hj,hoj⟩
   by_cases hlt2:j<fs[k].sorts.length
   ·by_cases hx:0≤fs[k].sorts[j]∧fs[k].sorts[j]<so.length
    ·obtain⟨hx1,hx2⟩:=hx
     rw[insB_drop hlt2,decide_eq_true ⟨hx1,hx2⟩,Bool.true_and] at hoj
     (refine j7 ?_;(focus ((with_reducible apply AOps.index_map);(iterate 7 exact rfl);rotate_left;omega));refine j356 ?_;refine zs ?_;refine j12 ?_;refine j93 ?_;refine j74 ?_;refine zd ?_;refine zk ?_;refine AW.skip ?_;refine j88 ?_)
     exact⟨j+1,⟨by omega,hoj⟩,by omega,weak rfl (by(refine⟨.intE (by first|with_reducible rfl|(rfl)),?_⟩;refine⟨.intE (by first|with_reducible rfl|(rfl)),?_⟩;refine⟨.pvE (by first|with_reducible rfl|(rfl)),?_⟩;(iterate 2 refine⟨.intE (by first|with_reducible rfl|(rfl)),?_⟩);refine⟨.pvE (by first|with_reducible rfl|(rfl)),?_⟩;(iterate 5 refine⟨.eq rfl rfl,?_⟩);exact trivial)) (by(refine⟨.box _ rfl ?_,?_⟩;refine⟨.eq rfl rfl,?_⟩;exact trivial;refine⟨.box _ rfl ?_,?_⟩;refine⟨.ownE (by first|with_reducible rfl|(rfl)) rfl,?_⟩;refine⟨.intE (by first|with_reducible rfl|(rfl)),?_⟩;refine⟨.eq rfl rfl,?_⟩;refine⟨.intE (by first|with_reducible rfl|(rfl)),?_⟩;exact trivial;refine⟨.row rfl,?_⟩;refine⟨.box _ rfl ?_,?_⟩;refine⟨.eq rfl rfl,?_⟩;refine⟨.intE (by first|with_reducible rfl|(rfl)),?_⟩;refine⟨.eq rfl rfl,?_⟩;refine⟨.intE (by first|with_reducible rfl|(rfl)),?_⟩;exact trivial;refine⟨.box _ rfl ?_,?_⟩;(iterate 2 refine⟨.pvE (by first|with_reducible rfl|(rfl)),?_⟩);(iterate 2 refine⟨.eq rfl rfl,?_⟩);(iterate 2 exact trivial))) rfl⟩
    ·by_cases hx1:0≤fs[k].sorts[j]
     ·have hx2:¬fs[k].sorts[j]<so.length:=fun h=>hx ⟨hx1,h⟩
      clear hx
      (refine j7 ?_;(focus ((with_reducible apply AOps.index_map);(iterate 7 exact rfl);rotate_left;omega));refine j356 ?_;refine zs ?_;refine j12 ?_;refine j93 ?_;refine j74 ?_;refine j340 ?_;refine j122 ?_;refine nz ?_;(with_reducible apply AOps.mkPanic);(iterate 3 exact rfl);kernel_rfl;exact rfl;(intro ch_ hch_);refine j24 ?_;refine j326 ?_;(iterate 2 refine inBlockD_pan ?_);(iterate 2 refine thenD_pan ?_);refine j254 ?_)
      (apply endsP;(with_reducible assumption);((exact j51));((exact j42));exact rfl)
     ·clear hx
      (refine j7 ?_;(focus ((with_reducible apply AOps.index_map);(iterate 7 exact rfl);rotate_left;omega));refine j356 ?_;refine j353 ?_;(iterate 5 refine AOps.guardFn rfl rfl rfl rfl rfl rfl (by first|omega|decide) ?_);refine zT ?_;refine j154 ?_;refine j122 ?_;refine nz ?_;(with_reducible apply AOps.mkPanic);(iterate 3 exact rfl);kernel_rfl;exact rfl;(intro ch_ hch_);refine j24 ?_;refine j326 ?_;(iterate 2 refine inBlockD_pan ?_);(iterate 2 refine thenD_pan ?_);refine j254 ?_)
      (apply endsP;(with_reducible assumption);((exact j51));((exact j42));exact rfl)
   ·obtain rfl:j=fs[k].sorts.length:=by omega
    rw[List.drop_length] at hoj
    have hin:insB so.length fs[k].sorts=true:=by
                              rcases hoj with h|h;·cases h
                              ·exact h
    rw[hin,Bool.true_and] at hor
    (refine j305 ?_;refine j88 ?_)
    exact⟨k+1,⟨by omega,hor⟩,by omega,weak rfl (by(refine⟨.intE (by first|with_reducible rfl|(rfl)),?_⟩;refine⟨.intE (by first|with_reducible rfl|(rfl)),?_⟩;refine⟨.pvE (by first|with_reducible rfl|(rfl)),?_⟩;(iterate 5 refine⟨.eq rfl rfl,?_⟩);exact trivial)) (by(refine⟨.box _ rfl ?_,?_⟩;refine⟨.eq rfl rfl,?_⟩;exact trivial;refine⟨.box _ rfl ?_,?_⟩;refine⟨.ownE (by first|with_reducible rfl|(rfl)) rfl,?_⟩;refine⟨.intE (by first|with_reducible rfl|(rfl)),?_⟩;refine⟨.eq rfl rfl,?_⟩;refine⟨.intE (by first|with_reducible rfl|(rfl)),?_⟩;exact trivial;refine⟨.row rfl,?_⟩;refine⟨.box _ rfl ?_,?_⟩;refine⟨.eq rfl rfl,?_⟩;refine⟨.intE (by first|with_reducible rfl|(rfl)),?_⟩;refine⟨.eq rfl rfl,?_⟩;refine⟨.intE (by first|with_reducible rfl|(rfl)),?_⟩;exact trivial;refine⟨.box _ rfl ?_,?_⟩;(iterate 2 refine⟨.pvE (by first|with_reducible rfl|(rfl)),?_⟩);(iterate 2 refine⟨.eq rfl rfl,?_⟩);(iterate 2 exact trivial))) rfl⟩
  ·obtain rfl:k=fs.length:=by omega
   rw[List.drop_length] at hor
   have hso:sortsIn so.length fs=true:=by
                          rcases hor with h|h;·cases h
                          ·exact h
   rw[if_pos ⟨hsc,hso⟩] at hF
   have e8:=Option.map_eq_none_iff.1 hF
   clear hF hlt hor
   have hfld:=fun {t r:Bt} {q:RelM}=> @hfld t r q acc stv hsc hso
   have hflN:=fun {t:Bt}=> @hflN t acc stv hsc hso
   (refine j46 ?_;refine j130 ?_;refine j64 ?_;refine zb ?_;refine zm ?_;refine zd ?_;refine AW.block ?_)
   (refine nz ?_;apply AW.loopR [95,5,4,3,0,1000] [5,4] (fun p:Nat×List (List RelM)×Bt=>([(96,litI p.1)]:List (Nat×AV))) (fun p:Nat×List (List RelM)×Bt=>([(3,some (.box [litS (mkS p.2.2)])),(6,some (.box [.pv (ints acc),litI stv,.own 21 55 1 (p.2.1.map fun s=>[rels s]),litI lpv])),(21,some .row)]:List (Nat×Option Ob))) (fun p:Nat×List (List RelM)×Bt=>p.1≤stv.toNat∧p.2.2.length≤1000000∧p.2.1.length=p.1∧statesP so acc fs (stv.toNat - p.1) p.1 p.2.1 p.2.2=none) (fun p:Nat×List (List RelM)×Bt=>stv.toNat - p.1) ((0,[],t7));(conv=>lhs;simp only[Nf.lpR,Nf.all,Nat.reduceBEq,reduceAdd,reduceSub]);(all_goals skip))
   ·exact⟨Nat.zero_le _,by show t7.length≤1000000;omega,rfl,e8⟩
   ·exact j79
   rintro⟨i,sts,t⟩ ⟨hi,ht,hst,hP⟩
   simp only at hi ht hst hP ⊢
   by_cases hlt:i<stv.toNat
   ·rw[show stv.toNat - i=(stv.toNat - (i+1))+1 by omega,statesP_s] at hP
    have hdl:=dig_len i (by omega)
    have hit:=itoa_fn (i:Int) (by omega)
    have hle:∀w∈ [[115,116,97,116,101,32],digT (i:Int),[10]],w.length≤1000000000:=by rintro w hw;simp only[List.mem_cons,List.not_mem_nil,or_false] at hw;rcases hw with rfl|rfl|rfl<;>first|(simp;done)|omega
    rcases bind_none hP with f1|⟨u1,f1,hA⟩
    ·have w1:=skipN_fn errT [[115,116,97,116,101,32],digT (i:Int),[10]] (by omega) hle (by simp) f1
     simp only[wordsV,List.map_cons,List.map_nil] at w1
     unfold SB SX at w1
     clear hP
     (refine j359 ?_;(with_reducible apply AOps.callD (hf:=w1));(with_reducible assumption);(first|(with_reducible assumption)|(refine TB.gs ?_ (by with_reducible assumption);with_reducible assumption)|(refine TB.gi ?_ (by with_reducible assumption);with_reducible assumption)|exact TB.none _);(iterate 3 exact rfl);(repeat (first|exact trivial|refine⟨rfl,?_⟩));(repeat (first|exact .nil|(refine .cons ?_ ?_;(first|exact .eq rfl rfl|exact .nil _|exact .any _))));exact rfl;exact rfl;(repeat (first|exact trivial|refine⟨rfl,?_⟩|refine⟨obIds_set,?_⟩));(repeat (first|exact trivial|refine⟨rfl,?_⟩|refine⟨obIds_set,?_⟩));(intro ch_ hch_);refine j241 ?_;refine j80 ?_)
     (apply endsP;(with_reducible assumption);((exact j51));((exact j42));exact rfl)
    clear hP
    have g1:=skip_len f1
    have w1:=skipY_fn [[115,116,97,116,101,32],digT (i:Int),[10]] (by omega) hle (by simp) f1
    simp only[wordsV,List.map_cons,List.map_nil] at w1
    unfold SB at w1
    obtain⟨H,hH⟩:∃H:List RelM×Bt→Option (List (List RelM)×Bt),H=fun q=>statesP so acc fs (stv.toNat - (i+1)) ((i:Int)+1) (sts++ [q.1]) q.2:=⟨_,rfl⟩
    have hA:(linesP so acc fs [] u1).bind H=none:=by rw[hH];exact hA
    (refine j359 ?_;refine zX (w1) ?_;refine j102 ?_;refine j180 ?_;refine j37 ?_;refine j47 ?_;refine j97 ?_)
    (refine nz ?_;apply AW.loopR [106,105,96,95,5,4,3,0,1000] [6,21,5,4] (fun p:Nat×List RelM×Bt=>([(107,litI p.1),(13,.own 22 54 2 (p.2.1.map encR))]:List (Nat×AV))) (fun p:Nat×List RelM×Bt=>([(3,some (.box [litS (mkS p.2.2)])),(22,some .row)]:List (Nat×Option Ob))) (fun p:Nat×List RelM×Bt=>p.1≤fs.length∧p.2.2.length≤1000000∧p.2.1.length=p.1∧(linesP so acc (fs.drop p.1) p.2.1 p.2.2).bind H=none) (fun p:Nat×List RelM×Bt=>fs.length - p.1) ((0,[],u1));(conv=>lhs;simp only[Nf.lpR,Nf.all,Nat.reduceBEq,reduceAdd,reduceSub]);(all_goals skip))
    ·exact⟨Nat.zero_le _,by show u1.length≤1000000;omega,rfl,hA⟩
    ·exact j66
    rintro⟨k,rl,t⟩ ⟨hk,ht,hac,hP⟩
    simp only at hk ht hac hP ⊢
    clear hA
    by_cases hlt2:k<fs.length
    ·rw[List.drop_eq_getElem_cons hlt2,linesP_c] at hP
     cases f3:lineP so acc fs[k] t with
     |none=>
      have w2:=hflN fs[k] (List.getElem_mem hlt2) ht f3
      unfold SB SX at w2
      clear hP
      (refine j7 ?_;(focus ((with_reducible apply AOps.index_map);(iterate 7 exact rfl);rotate_left;omega));refine j276 ?_;(with_reducible apply AOps.load_bs);(iterate 3 exact rfl);(repeat' first|exact Sub.nil|apply Sub.take|apply Sub.skip);(iterate 3 exact rfl);refine j27 ?_;(with_reducible apply AOps.callD (hf:=w2));(with_reducible assumption);(first|(with_reducible assumption)|(refine TB.gs ?_ (by with_reducible assumption);with_reducible assumption)|(refine TB.gi ?_ (by with_reducible assumption);with_reducible assumption)|exact TB.none _);(iterate 3 exact rfl);(repeat (first|exact trivial|refine⟨rfl,?_⟩));(repeat (first|exact .nil|(refine .cons ?_ ?_;(first|exact .eq rfl rfl|exact .nil _|exact .any _))));exact rfl;exact rfl;(repeat (first|exact trivial|refine⟨rfl,?_⟩|refine⟨obIds_set,?_⟩));(repeat (first|exact trivial|refine⟨rfl,?_⟩|refine⟨obIds_set,?_⟩));(intro ch_ hch_);refine j241 ?_;refine j326 ?_;refine inBlockD_pan ?_;refine j80 ?_)
      (apply endsP;(with_reducible assumption);((exact j51));((exact j42));exact rfl)
     |some qv=>
      obtain⟨q,v1⟩:=qv
      rw[f3,Option.bind_some] at hP
      have g3:=lineP_len f3
      have w2:=hfld fs[k] (List.getElem_mem hlt2) ht f3
      unfold SB at w2
      (refine j7 ?_;(focus ((with_reducible apply AOps.index_map);(iterate 7 exact rfl);rotate_left;omega));refine j276 ?_;(with_reducible apply AOps.load_bs);(iterate 3 exact rfl);(repeat' first|exact Sub.nil|apply Sub.take|apply Sub.skip);(iterate 3 exact rfl);refine j27 ?_;refine zX (w2) ?_;refine j102 ?_;refine AOps.bs1a2 rfl rfl rfl rfl rfl rfl rfl rfl rfl ?_;refine nz ?_;(with_reducible apply AOps.appendS);exact rfl;(first|exact .pv rfl|exact .own rfl|exact .nil rfl);(iterate 9 exact rfl);(first|omega|(simp only[List.length_map,List.length_append,List.length_cons,List.length_nil,List.length_drop,List.length_take,List.length_set,chunk_len];omega));refine nz ?_;refine j136 ?_)
      exact⟨(k+1,_,v1),⟨by omega,by show v1.length≤1000000;omega,by simp;omega,hP⟩,(by show fs.length - (k+1)<fs.length - k;omega),weak rfl (by(refine⟨.intE (by first|rfl|(rw[List.map_append];rfl)),?_⟩;refine⟨.ownE (by first|rfl|(rw[List.map_append];rfl)) rfl,?_⟩;refine⟨.intE (by first|rfl|(rw[List.map_append];rfl)),?_⟩;refine⟨.pvE (by first|rfl|(rw[List.map_append];rfl)),?_⟩;refine⟨.intE (by first|rfl|(rw[List.map_append];rfl)),?_⟩;refine⟨.intE (by first|rfl|(rw[List.map_append];rfl)),?_⟩;(iterate 5 refine⟨.eq rfl rfl,?_⟩);exact trivial)) (by(refine⟨.box _ rfl ?_,?_⟩;refine⟨.eq rfl rfl,?_⟩;exact trivial;refine⟨.row rfl,?_⟩;refine⟨.box _ rfl ?_,?_⟩;refine⟨.pvE (by first|rfl|(rw[List.map_append];rfl)),?_⟩;refine⟨.intE (by first|rfl|(rw[List.map_append];rfl)),?_⟩;refine⟨.ownE (by first|rfl|(rw[List.map_append];rfl)) rfl,?_⟩;refine⟨.intE (by first|rfl|(rw[List.map_append];rfl)),?_⟩;exact trivial;refine⟨.row rfl,?_⟩;refine⟨.box _ rfl ?_,?_⟩;refine⟨.eq rfl rfl,?_⟩;refine⟨.intE (by first|rfl|(rw[List.map_append];rfl)),?_⟩;refine⟨.eq rfl rfl,?_⟩;refine⟨.intE (by first|rfl|(rw[List.map_append];rfl)),?_⟩;exact trivial;refine⟨.box _ rfl ?_,?_⟩;refine⟨.pvE (by first|rfl|(rw[List.map_append];rfl)),?_⟩;refine⟨.pvE (by first|rfl|(rw[List.map_append];rfl)),?_⟩;(iterate 2 refine⟨.eq rfl rfl,?_⟩);(iterate 2 exact trivial))) rfl⟩
    ·obtain rfl:k=fs.length:=by omega
     rw[List.drop_length,show linesP so acc [] rl t=some (rl,t) from rfl,Option.bind_some,hH] at hP
     simp only at hP
     clear hH
     (refine j46 ?_;refine j263 ?_;refine nz ?_;refine j81 ?_;(with_reducible apply AOps.appendS);exact rfl;(first|exact .pv rfl|exact .own rfl|exact .nil rfl);(iterate 9 exact rfl);(first|omega|(simp only[List.length_map,List.length_append,List.length_cons,List.length_nil,List.length_drop,List.length_take,List.length_set,chunk_len];omega));refine nz ?_;refine j250 ?_;refine j279 ?_)
     exact⟨(i+1,sts++ [rl],t),⟨by omega,by show t.length≤1000000;omega,by simp;omega,by rw[Int.natCast_add];exact hP⟩,(by show stv.toNat - (i+1)<stv.toNat - i;omega),weak rfl (by(refine⟨.intE (by first|rfl|(rw[List.map_append];rfl)),?_⟩;refine⟨.intE (by first|rfl|(rw[List.map_append];rfl)),?_⟩;(iterate 5 refine⟨.eq rfl rfl,?_⟩);exact trivial)) (by(refine⟨.box _ rfl ?_,?_⟩;refine⟨.eq rfl rfl,?_⟩;exact trivial;refine⟨.box _ rfl ?_,?_⟩;refine⟨.pvE (by first|rfl|(rw[List.map_append];rfl)),?_⟩;refine⟨.intE (by first|rfl|(rw[List.map_append];rfl)),?_⟩;refine⟨.ownE (by first|rfl|(rw[List.map_append];rfl)) rfl,?_⟩;refine⟨.intE (by first|rfl|(rw[List.map_append];rfl)),?_⟩;exact trivial;refine⟨.row rfl,?_⟩;refine⟨.box _ rfl ?_,?_⟩;refine⟨.eq rfl rfl,?_⟩;refine⟨.intE (by first|rfl|(rw[List.map_append];rfl)),?_⟩;refine⟨.eq rfl rfl,?_⟩;refine⟨.intE (by first|rfl|(rw[List.map_append];rfl)),?_⟩;exact trivial;refine⟨.box _ rfl ?_,?_⟩;refine⟨.pvE (by first|rfl|(rw[List.map_append];rfl)),?_⟩;refine⟨.pvE (by first|rfl|(rw[List.map_append];rfl)),?_⟩;(iterate 2 refine⟨.eq rfl rfl,?_⟩);(iterate 2 exact trivial))) rfl⟩
   ·obtain rfl:i=stv.toNat:=by omega
    rw[Nat.sub_self] at hP
    cases hP
 ·rw[eq_false_of_ne_true hsc] at hval
  clear hF
  (refine j106 ?_;refine zX (k7) ?_;refine j292 ?_;refine j100 ?_;(with_reducible apply AOps.load_bs);(iterate 3 exact rfl);(repeat' first|exact Sub.nil|apply Sub.take|apply Sub.skip);(iterate 3 exact rfl);refine zA (hval) ?_;refine AOps.not rfl rfl rfl ?_;refine j154 ?_;refine j122 ?_;refine nz ?_;(with_reducible apply AOps.mkPanic);(iterate 3 exact rfl);kernel_rfl;exact rfl;(intro ch_ hch_);refine j24 ?_;refine thenD_pan ?_)
  (apply endsP;(with_reducible assumption);((exact j51));((exact j42));exact rfl)
end Go.Ab
/- Chapter 34:the text of a model,walked. -/
namespace Go.Ab
open Go Go.Proofs Go.RowKit
open Nat (reduceAdd reduceSub)
set_option maxRecDepth 20000
set_option maxHeartbeats 4000000
theorem join_is (sep:Bt):∀ws:List Bt,Lib.join ws sep=joinT sep ws
 |[]=>rfl
 |x::r=>by
  rw[Lib.join_cons]
  show x++_=x++_
  congr 1
abbrev strE (x:ByteArray):List PV:=[.lit (.string x)]
theorem joinS_fn (ws:List ByteArray) (sep:Bt) (hl:ws.length≤1000000) (hw:(joinT sep (ws.map sL)).length≤100000000):Fn Tryz.prog 41 [.pv (.slice 1 (ws.map strE)),litS (mkS sep)] (litS (mkS (joinT sep (ws.map sL)))) where
 enters:=enters_of Tryz.func41 rfl (by decide)
 calls:=by
  intro N w vals hN hs hargs
  have hs:vals.size=2:=hs
  obtain⟨v0,v1,rfl⟩:∃v0 v1,vals= #[v0,v1]:=by
   rcases vals with ⟨_|⟨v0,_|⟨v1,_|_⟩⟩⟩<;>simp at hs
   exact⟨v0,v1,rfl⟩
  have h0:=hargs 0 v0 _ rfl rfl
  have h1:=(hargs 1 v1 _ rfl rfl).lit
  subst h1
  have h0:=h0.pv_inv
  cases h0 with
  | @slice a len cap k els b off vs hln hcap hb ha hk hc hr=>
   rw[List.length_map] at hln
   subst hln
   by_cases hnil:ws=[]
   ·subst hnil
    exact(Tryz.strings_Join_none a cap (mkS sep) w).mono fun e w' ⟨he,hw⟩=>⟨_,he,.pv (.lit _),hw▸Below.refl _ _⟩
   ·have hab:=ha (by simpa using hnil)
    obtain⟨rfl,_,hbk⟩:=hab
    have hcell:∀(j:Nat) x,ws[j]? =some x→w.cell? ⟨b,off+j,none⟩=some (.string x):=by
     intro j x hj
     have hp:cellAt (ws.map strE) j 0=some (.lit (.string x)):=by
      simp [cellAt,strE,hj]
     have h2:=hr j 0 _ hp
     have h3:=(hc j 0 _ hp).1
     generalize vs j 0=u at h2 h3
     cases h2
     rw[Nat.mul_one,Nat.add_zero] at h3
     exact h3
    have hj:=Tryz.strings_Join b off cap ws (mkS sep) w hcell hbk (by omega) (by omega) (by rw[mk_list,join_is];show(joinT sep (ws.map sL)).length≤_;omega)
    rw[mk_list,join_is] at hj
    exact hj.mono fun e w' ⟨he,hb⟩=>⟨_,he,.pv (.lit _),hb⟩
theorem partT_s (s:ByteArray):partT (.str s)=sL s:=rfl
theorem partT_k (l:Bt):partT (.str (mkS l))=l:=rfl
theorem partT_n (z:Int):partT (.num z)=digT z:=rfl
theorem step_put {l R R' full:Bt} {ps:List PartM} (h:l++R=full) (hR:R=ps.flatMap partT++R') (hf:full.length≤90000000):l.length+(ps.flatMap partT).length≤100000000∧(l++ps.flatMap partT)++R'=full:=by
 subst hR
 constructor
 ·have:=congrArg List.length h
  simp only[List.length_append] at this
  omega
 ·rw[List.append_assoc];exact h
def restT (so:List SortM) (at':List Int) (ar:Int) (ts:List Int) (j:Nat):Bt:=if j=0 then joinT [44,32] (ts.map (tupT so at' ar)) else (ts.drop j).flatMap fun y=>[44,32]++tupT so at' ar y
theorem restT_0 {so:List SortM} {at':List Int} {ar:Int} {ts:List Int} (h:0<ts.length):restT so at' ar ts 0=tupT so at' ar ts[0]++restT so at' ar ts 1:=by
 cases ts with
 |nil=>simp at h
 |cons t ts=>
  unfold restT
  rw[if_pos rfl,if_neg (by omega),List.map_cons]
  show tupT so at' ar t++(ts.map (tupT so at' ar)).flatMap (fun y=>[44,32]++y)=_
  rw[List.flatMap_map]
  rfl
theorem restT_s {so:List SortM} {at':List Int} {ar:Int} {ts:List Int} {j:Nat} (h0:0<j) (h:j<ts.length):restT so at' ar ts j=[44,32]++(tupT so at' ar ts[j]++restT so at' ar ts (j+1)):=by
 unfold restT
 rw[if_neg (by omega),if_neg (by omega),List.drop_eq_getElem_cons h,List.flatMap_cons,List.append_assoc]
theorem restT_e {so:List SortM} {at':List Int} {ar:Int} {ts:List Int}:restT so at' ar ts ts.length=[]:=by
 unfold restT
 split
 ·rename_i h
  rw[List.eq_nil_of_length_eq_zero h];rfl
 ·rw[List.drop_length];rfl
structure FmtOk (s:SpecM) (m:ModM):Prop where
 sp:SpB s
 at5:Ok5 m.atoms
 sa:s.sorts.length=m.atoms.length
 st:0≤m.steps∧m.steps<100
 lp:0≤m.loop∧m.loop<100
 ss:m.states.length≤100
 sf:∀st∈m.states,st.length=s.fields.length
 ts:∀st∈m.states,∀r∈st,r.2.length≤1000000∧∀t∈r.2,t≤9223372036854775807∧(tupF m.atoms.sum r.1 t).length≤1000∧∀x∈tupF m.atoms.sum r.1 t,0≤x∧x≤1000
 len:(fmtT s m).length≤90000000
attribute [local irreducible] AW AOps thenD inBlockD AR iterEnds roundEndsN inlEnds noGotoD EndsX byteAt
theorem format_fn (s:SpecM) (m:ModM) (h:FmtOk s m):Fn Tryz.prog 13 [spc s,mdl m] (litS (mkS (fmtT s m))):=by
 obtain⟨⟨hq1,hq2,hq3,hq4⟩,h5,hsa,hst,hlp,hss,hsf,hts,hlen⟩:=h
 have h5m:=h5.sm
 have hsum:=h5.sum
 have hname:=fun(x:Int) (hx:0≤x∧x≤1000)=>uName_fn s m.atoms m.steps x h5 hsa ⟨by omega,by omega⟩ hq2
 have htup:=fun(k r:Int) (hr:r≤9223372036854775807)=>uTuple_fn m.atoms m.steps k r h5m (by omega) hr
 have hnil:fmtT s m≠ []:=by unfold fmtT headT;simp
 have hstr:=string_fnX Tryz.lays169 Tryz.Builder_Extra_169 2 3 4 (by omega) (by omega) (by omega) (fmtT s m) hnil (enters_of Tryz.func42 rfl (by decide))
 have hp0:=put0_fn (mkS [115,99,111,112,101]) (by rw[mk_size];simp)
 obtain⟨full,hfull⟩:∃full,full=fmtT s m:=⟨_,rfl⟩
 rw[← hfull] at hlen hstr ⊢
 unfold fmtT headT at hfull
 obtain⟨tl,htl⟩:∃tl,tl=statesT s.sorts m.atoms s.fields 0 m.states:=⟨_,rfl⟩
 rw[← htl] at hfull
 obtain⟨so,fs,p_,q_⟩:=s
 obtain⟨at',st,ss,lp⟩:=m
 simp only at*
 unfold W0 WB at hp0
 clear hnil
 refine Fn.enter (n:=135) Tryz.func13 rfl rfl rfl rfl rfl (by decide) fun g hro_ hwt_=>?_;(try refine nz ?_)
 (refine j187 ?_;(with_reducible apply AOps.allocL (e:=85));(iterate 3 exact rfl);refine AOps.adopt ?_;(try refine nz ?_);refine j180 ?_;refine j203 ?_;refine nz ?_;refine zX (hp0) ?_;refine j292 ?_;refine j62 ?_;refine j97 ?_)
 (refine nz ?_;apply AW.loopR [22,21,5,4,3,2] [1,0] (fun p:Nat×Bt=>([(23,litI p.1)]:List (Nat×AV))) (fun p:Nat×Bt=>([(2,some (.box [.ptr 2 0,.own 3 5 1 (bytesE p.2)])),(3,some .row)]:List (Nat×Option Ob))) (fun p:Nat×Bt=>p.1≤so.length∧p.2++(atomsT (so.drop p.1) (at'.drop p.1)++([32,115,116,101,112,115,61]++(digT st++([32,108,111,111,112,61]++(digT lp++([10]++tl))))))=full) (fun p:Nat×Bt=>so.length - p.1) (((0:Nat),[115,99,111,112,101]));(conv=>lhs;simp only[Nf.lpR,Nf.all,Nat.reduceBEq,reduceAdd,reduceSub]);(all_goals skip))
 ·refine⟨Nat.zero_le _,?_⟩
  rw[hfull]
  simp [List.append_assoc]
 ·exact j87
 rintro⟨k,l⟩ ⟨hk,hinv⟩
 simp only at hk hinv ⊢
 by_cases hlt:k<so.length
 ·have hlt':k<at'.length:=by omega
  have hb:=h5.each _ (List.getElem_mem hlt')
  have hz:=hq2 _ (List.getElem_mem hlt)
  rw[List.drop_eq_getElem_cons hlt,List.drop_eq_getElem_cons hlt'] at hinv
  unfold atomsT at hinv
  have pah:=step_put (ps:=[.str (mkS [32]),.str so[k].1,.str (mkS [61]),.num at'[k]]) hinv (by simp only[List.flatMap_cons,List.flatMap_nil,List.append_assoc,List.nil_append,partT_s,partT_k,partT_n];rfl) hlen
  have pa:=put_fn l [.str (mkS [32]),.str so[k].1,.str (mkS [61]),.num at'[k]] (by intro p hp;simp only[List.mem_cons,List.not_mem_nil,or_false] at hp;rcases hp with rfl|rfl|rfl|rfl<;>first|(show ByteArray.size _≤_;simp [mk_size];done)|(show ByteArray.size _≤_;omega)|(show _∧_;omega)) (by simp) pah.1
  have pah:=pah.2
  unfold WB at pa
  (refine j303 ?_;(focus ((with_reducible apply AOps.index_map);(iterate 7 exact rfl);rotate_left;omega));refine j167 ?_;refine j21 ?_;refine za ?_;refine j155 ?_;refine zd ?_;refine AW.regionM [0,1,2,3,4,5,6,7,8,9,10,11] [13] rfl (by assumption) (by kernel_rfl) (by kernel_rfl) rfl ?_;show AOps .held _ _ _ [_,_,_,_,_,_,_,_,_,_,_,_] _ _;refine AOps.makeIfc rfl (by kernel_rfl) rfl rfl ?_;refine AOps.fieldAddrN 50 0 0 rfl rfl rfl rfl ?_;refine zb ?_;refine j297 ?_;refine j112 ?_;refine zm ?_;(focus ((with_reducible apply AOps.index_map);(iterate 7 exact rfl);rotate_left;omega));refine zr ?_;refine AOps.makeIfc rfl (by kernel_rfl) rfl rfl ?_;refine j6 ?_;intro k_ hk_;refine nz ?_;refine AR.step1M (i:=12) rfl (by kernel_rfl) rfl ?_;intro g_ hgro_ hw_;refine AOps.bs4 rfl rfl rfl rfl rfl rfl rfl rfl rfl rfl rfl rfl rfl rfl rfl rfl rfl ?_;refine nz ?_;refine j6 ?_;refine AR.step1LM (i:=13) rfl (by kernel_rfl) rfl (by kernel_rfl) ?_;intro g_ hgro_ hwt2_;refine j325 ?_;refine zX (pa) ?_;refine j102 ?_;refine j96 ?_;refine j8 ?_;refine j279 ?_)
  all_goals exact⟨(k+1,l++ [PartM.str (mkS [32]),.str so[k].1,.str (mkS [61]),.num at'[k]].flatMap partT),⟨by omega,pah⟩,(by show so.length - (k+1)<so.length - k;omega),weak rfl (by((iterate 2 refine j174 ?_);refine⟨.pvE (by first|with_reducible rfl|(rfl)),?_⟩;(iterate 4 refine⟨.eq rfl rfl,?_⟩);exact trivial)) (by(refine j119 ?_;refine⟨.box _ rfl ?_,?_⟩;refine⟨.pvE (by first|with_reducible rfl|(rfl)),?_⟩;refine j174 ?_;refine⟨.pvE (by first|with_reducible rfl|(rfl)),?_⟩;refine j174 ?_;exact trivial;refine⟨.box _ rfl ?_,?_⟩;(iterate 2 refine⟨.pvE (by first|with_reducible rfl|(rfl)),?_⟩);(iterate 2 refine⟨.eq rfl rfl,?_⟩);(iterate 2 exact trivial))) rfl⟩
 obtain rfl:k=so.length:=by omega
 rw[List.drop_length,hsa,List.drop_length] at hinv
 unfold atomsT at hinv
 rw[List.nil_append] at hinv
 have pbh:=step_put (ps:=[.str (mkS [32,115,116,101,112,115,61]),.num st,.str (mkS [32,108,111,111,112,61]),.num lp,.str (mkS [10])]) hinv (by simp only[List.flatMap_cons,List.flatMap_nil,List.append_assoc,List.nil_append,partT_s,partT_k,partT_n];rfl) hlen
 have pb:=put_fn l [.str (mkS [32,115,116,101,112,115,61]),.num st,.str (mkS [32,108,111,111,112,61]),.num lp,.str (mkS [10])] (by intro p hp;simp only[List.mem_cons,List.not_mem_nil,or_false] at hp;rcases hp with rfl|rfl|rfl|rfl|rfl<;>first|(show ByteArray.size _≤_;simp [mk_size];done)|(show _∧_;omega)) (by simp) pbh.1
 have pbh:=pbh.2
 unfold WB at pb
 rw[htl] at pbh
 (refine j215 ?_;refine AOps.makeIfc rfl (by kernel_rfl) rfl rfl ?_;refine j64 ?_;refine zb ?_;refine j297 ?_;refine AOps.fieldAddrN 33 2 3 rfl rfl rfl rfl ?_;refine zb ?_;refine j297 ?_;refine AOps.bs5 rfl rfl rfl rfl rfl rfl rfl rfl rfl rfl rfl rfl rfl rfl rfl rfl rfl rfl rfl rfl ?_;refine nz ?_;refine j325 ?_;refine zX (pb) ?_;refine j292 ?_;refine j22 ?_;refine j97 ?_)
 (refine nz ?_;apply AW.loopR [57,56,5,4,3,2] [1,0] (fun p:Nat×Bt=>([(58,litI p.1)]:List (Nat×AV))) (fun p:Nat×Bt=>([(2,some (.box [.ptr 2 0,.own 3 5 1 (bytesE p.2)])),(3,some .row)]:List (Nat×Option Ob))) (fun p:Nat×Bt=>p.1≤ss.length∧p.2++statesT so at' fs (p.1:Int) (ss.drop p.1)=full) (fun p:Nat×Bt=>ss.length - p.1) (((0:Nat),l++ [PartM.str (mkS [32,115,116,101,112,115,61]),.num st,.str (mkS [32,108,111,111,112,61]),.num lp,.str (mkS [10])].flatMap partT));(conv=>lhs;simp only[Nf.lpR,Nf.all,Nat.reduceBEq,reduceAdd,reduceSub]);(all_goals skip))
 ·exact⟨Nat.zero_le _,pbh⟩
 ·exact j87
 clear pb pbh hinv hlt hk
 rintro⟨i,l⟩ ⟨hi,hinv⟩
 simp only at hi hinv ⊢
 by_cases hlt:i<ss.length
 ·have hsf1:=hsf _ (List.getElem_mem hlt)
  have hts1:=hts _ (List.getElem_mem hlt)
  rw[List.drop_eq_getElem_cons hlt] at hinv
  unfold statesT stateT at hinv
  have pch:=step_put (ps:=[.str (mkS [115,116,97,116,101,32]),.num (i:Int),.str (mkS [10])]) hinv (by simp only[List.flatMap_cons,List.flatMap_nil,List.append_assoc,List.nil_append,partT_s,partT_k,partT_n];rfl) hlen
  have pc:=put_fn l [.str (mkS [115,116,97,116,101,32]),.num (i:Int),.str (mkS [10])] (by intro p hp;simp only[List.mem_cons,List.not_mem_nil,or_false] at hp;rcases hp with rfl|rfl|rfl<;>first|(show ByteArray.size _≤_;simp [mk_size];done)|(show _∧_;omega)) (by simp) pch.1
  have pch:=pch.2
  unfold WB at pc
  obtain⟨R1,hR1⟩:∃R1,R1=statesT so at' fs ((i:Int)+1) (ss.drop (i+1)):=⟨_,rfl⟩
  rw[← hR1] at pch
  (refine j303 ?_;(focus ((with_reducible apply AOps.index_map);(iterate 7 exact rfl);rotate_left;omega));refine zr ?_;refine j101 ?_;refine j2 ?_;refine AOps.makeIfc rfl (by kernel_rfl) rfl rfl ?_;refine zm ?_;refine j297 ?_;refine j140 ?_;refine zX (pc) ?_;refine j102 ?_;refine j180 ?_;refine j47 ?_;refine j97 ?_)
  (refine nz ?_;apply AW.loopR [71,70,9,58,57,56,5,4,3,2] [1,0] (fun p:Nat×Bt=>([(72,litI p.1)]:List (Nat×AV))) (fun p:Nat×Bt=>([(2,some (.box [.ptr 2 0,.own 3 5 1 (bytesE p.2)])),(3,some .row)]:List (Nat×Option Ob))) (fun p:Nat×Bt=>p.1≤fs.length∧p.2++(linesT so at' (fs.drop p.1) (ss[i].drop p.1)++R1)=full) (fun p:Nat×Bt=>fs.length - p.1) (((0:Nat),l++ [PartM.str (mkS [115,116,97,116,101,32]),.num (i:Int),.str (mkS [10])].flatMap partT));(conv=>lhs;simp only[Nf.lpR,Nf.all,Nat.reduceBEq,reduceAdd,reduceSub]);(all_goals skip))
  ·exact⟨Nat.zero_le _,pch⟩
  ·exact weak rfl (by(refine⟨.intE (by first|with_reducible rfl|(rfl)),?_⟩;refine⟨.intE (by first|with_reducible rfl|(rfl)),?_⟩;(iterate 2 refine⟨.pvE (by first|with_reducible rfl|(rfl)),?_⟩);(iterate 2 refine⟨.intE (by first|with_reducible rfl|(rfl)),?_⟩);refine⟨.pvE (by first|with_reducible rfl|(rfl)),?_⟩;(iterate 4 refine⟨.eq rfl rfl,?_⟩);exact trivial)) (by(refine⟨.box _ rfl ?_,?_⟩;refine⟨.eq rfl rfl,?_⟩;refine⟨.ownE (by first|with_reducible rfl|(rfl)) rfl,?_⟩;exact trivial;refine⟨.row rfl,?_⟩;refine⟨.box _ rfl ?_,?_⟩;refine⟨.pvE (by first|with_reducible rfl|(rfl)),?_⟩;refine⟨.intE (by first|with_reducible rfl|(rfl)),?_⟩;refine⟨.pvE (by first|with_reducible rfl|(rfl)),?_⟩;refine⟨.intE (by first|with_reducible rfl|(rfl)),?_⟩;exact trivial;refine⟨.box _ rfl ?_,?_⟩;(iterate 2 refine⟨.pvE (by first|with_reducible rfl|(rfl)),?_⟩);(iterate 2 refine⟨.eq rfl rfl,?_⟩);(iterate 2 exact trivial))) rfl
  clear pc pch hinv
  rintro⟨k,l⟩ ⟨hk,hinv⟩
  simp only at hk hinv ⊢
  by_cases hlt2:k<fs.length
  ·have hlt3:k<ss[i].length:=by omega
   have hz:=(hq4 _ (List.getElem_mem hlt2)).1
   obtain⟨ht1,ht2⟩:=hts1 _ (List.getElem_mem hlt3)
   rw[List.drop_eq_getElem_cons hlt2,List.drop_eq_getElem_cons hlt3] at hinv
   unfold linesT lineT at hinv
   obtain⟨R2,hR2⟩:∃R2,R2=linesT so at' (fs.drop (k+1)) (ss[i].drop (k+1))++R1:=⟨_,rfl⟩
   simp only[List.append_assoc] at hinv
   rw[← hR2] at hinv
   have hhd:sL fs[k].name++([32,61,32,123]++(joinT [44,32] ((ss[i][k].2).map (tupT so at' (ss[i][k].1)))++([125,10]++R2)))=[PartM.str fs[k].name,.str (mkS [32,61,32,123])].flatMap partT++(restT so at' (ss[i][k].1) (ss[i][k].2) 0++([125,10]++R2)):=by simp only[List.flatMap_cons,List.flatMap_nil,List.append_assoc,List.nil_append,partT_s,partT_k,partT_n];rfl
   have pdh:=step_put (ps:=[.str fs[k].name,.str (mkS [32,61,32,123])]) hinv hhd hlen
   have pd:=put_fn l [.str fs[k].name,.str (mkS [32,61,32,123])] (by intro p hp;simp only[List.mem_cons,List.not_mem_nil,or_false] at hp;rcases hp with rfl|rfl<;>first|(show ByteArray.size _≤_;simp [mk_size];done)|(show ByteArray.size _≤_;omega)) (by simp) pdh.1
   have pdh:=pdh.2
   unfold WB at pd
   (refine j303 ?_;(focus ((with_reducible apply AOps.index_map);(iterate 7 exact rfl);rotate_left;omega));refine j167 ?_;refine j21 ?_;refine za ?_;refine j155 ?_;refine j180 ?_;refine AOps.fieldAddrN 52 0 0 rfl rfl rfl rfl ?_;refine zb ?_;refine j297 ?_;refine j209 ?_;refine j325 ?_;refine zX (pd) ?_;refine j102 ?_;refine zd ?_;refine j142 ?_;(focus ((with_reducible apply AOps.index_map);(iterate 7 exact rfl);rotate_left;omega));refine AOps.fieldAddr_rN 54 1 1 1 rfl rfl rfl rfl ?_;refine nz ?_;refine zr ?_;refine j97 ?_)
   (refine nz ?_;apply AW.loopR [88,87,10,72,71,70,9,58,57,56,5,4,3,2] [1,0] (fun p:Nat×Bt=>([(89,litI p.1)]:List (Nat×AV))) (fun p:Nat×Bt=>([(2,some (.box [.ptr 2 0,.own 3 5 1 (bytesE p.2)])),(3,some .row)]:List (Nat×Option Ob))) (fun p:Nat×Bt=>p.1≤(ss[i][k].2).length∧p.2++(restT so at' (ss[i][k].1) (ss[i][k].2) p.1++([125,10]++R2))=full) (fun p:Nat×Bt=>(ss[i][k].2).length - p.1) (((0:Nat),l++ [PartM.str fs[k].name,.str (mkS [32,61,32,123])].flatMap partT));(conv=>lhs;simp only[Nf.lpR,Nf.all,Nat.reduceBEq,reduceAdd,reduceSub]);(all_goals skip))
   ·exact⟨Nat.zero_le _,pdh⟩
   ·exact weak rfl (by(refine⟨.intE (by first|with_reducible rfl|(rfl)),?_⟩;refine⟨.intE (by first|with_reducible rfl|(rfl)),?_⟩;refine⟨.pvE (by first|with_reducible rfl|(rfl)),?_⟩;(iterate 3 refine⟨.intE (by first|with_reducible rfl|(rfl)),?_⟩);(iterate 2 refine⟨.pvE (by first|with_reducible rfl|(rfl)),?_⟩);(iterate 2 refine⟨.intE (by first|with_reducible rfl|(rfl)),?_⟩);refine⟨.pvE (by first|with_reducible rfl|(rfl)),?_⟩;(iterate 4 refine⟨.eq rfl rfl,?_⟩);exact trivial)) (by(refine⟨.box _ rfl ?_,?_⟩;refine⟨.eq rfl rfl,?_⟩;refine⟨.ownE (by first|with_reducible rfl|(rfl)) rfl,?_⟩;exact trivial;refine⟨.row rfl,?_⟩;refine⟨.box _ rfl ?_,?_⟩;refine⟨.pvE (by first|with_reducible rfl|(rfl)),?_⟩;refine⟨.intE (by first|with_reducible rfl|(rfl)),?_⟩;refine⟨.pvE (by first|with_reducible rfl|(rfl)),?_⟩;refine⟨.intE (by first|with_reducible rfl|(rfl)),?_⟩;exact trivial;refine⟨.box _ rfl ?_,?_⟩;(iterate 2 refine⟨.pvE (by first|with_reducible rfl|(rfl)),?_⟩);(iterate 2 refine⟨.eq rfl rfl,?_⟩);(iterate 2 exact trivial))) rfl
   clear pd pdh hinv hhd
   rintro⟨j,l⟩ ⟨hj,hinv⟩
   simp only at hj hinv ⊢
   by_cases hlt4:j<(ss[i][k].2).length
   ·obtain⟨hr1,hr2,hr3⟩:=ht2 _ (List.getElem_mem hlt4)
    have hT:=htup (ss[i][k].1) (ss[i][k].2)[j] hr1
    obtain⟨xs,hxs⟩:∃xs,xs=tupF at'.sum (ss[i][k].1) (ss[i][k].2)[j]:=⟨_,rfl⟩
    rw[← hxs] at hT hr2 hr3
    have etu:tupT so at' (ss[i][k].1) (ss[i][k].2)[j]=joinT [45,62] ((xs.map (nameF so at')).map sL):=by
     rw[List.map_map,hxs];rfl
    have hxb:(tupT so at' (ss[i][k].1) (ss[i][k].2)[j]).length≤90000000:=by
     have:=congrArg List.length hinv
     simp only[List.length_append] at this
     rcases Nat.eq_zero_or_pos j with h0|h0
     ·subst h0
      rw[restT_0 hlt4,List.length_append] at this
      omega
     ·rw[restT_s h0 hlt4,List.length_append,List.length_append] at this
      omega
    have hjn:=joinS_fn (xs.map (nameF so at')) [45,62] (by rw[List.length_map];omega) (by rw[← etu];omega)
    rw[← etu,List.map_map] at hjn
    rcases Nat.eq_zero_or_pos j with h0|h0
    ·subst h0
     rw[restT_0 hlt4,List.append_assoc] at hinv
     have pfh:=step_put (ps:=[.str (mkS (tupT so at' (ss[i][k].1) (ss[i][k].2)[0]))]) hinv (by simp only[List.flatMap_cons,List.flatMap_nil,List.append_assoc,List.nil_append,partT_s,partT_k,partT_n];rfl) hlen
     have pf:=put_fn l [.str (mkS (tupT so at' (ss[i][k].1) (ss[i][k].2)[0]))] (by intro p hp;simp only[List.mem_cons,List.not_mem_nil,or_false] at hp;subst hp;show ByteArray.size _≤_;rw[mk_size];omega) (by simp) pfh.1
     have pfh:=pfh.2
     unfold WB at pf
     (refine j303 ?_;(focus ((with_reducible apply AOps.index_map);(iterate 7 exact rfl);rotate_left;omega));refine zr ?_;refine j101 ?_;refine j63 ?_;refine zd ?_;refine j133 ?_;refine j2 ?_;refine j3 ?_;(iterate 2 refine zo ?_);refine AW.regionM [0,1,2,3,4,5,6,7,10] [] rfl (by assumption) (by kernel_rfl) (by kernel_rfl) rfl ?_;show AOps .held _ _ _ [_,_,_,_,_,_,_,_,_] _ _;refine AOps.fieldAddrN 33 0 0 rfl rfl rfl rfl ?_;(with_reducible apply AOps.load_bs);(iterate 3 exact rfl);(repeat' first|exact Sub.nil|apply Sub.take|apply Sub.skip);(iterate 3 exact rfl);(iterate 2 refine zm ?_);(focus ((with_reducible apply AOps.index_map);(iterate 7 exact rfl);rotate_left;omega));refine AOps.fieldAddr_rN 54 0 0 1 rfl rfl rfl rfl ?_;refine nz ?_;refine zr ?_;(iterate 2 refine zm ?_);refine j6 ?_;intro k_ hk_;refine nz ?_;refine AR.step1M (i:=8) rfl (by kernel_rfl) rfl ?_;intro g_ hgro_ hw_;refine zP (hT) ?_;refine j6 ?_;refine AR.readsM [9] (by kernel_rfl) (by kernel_rfl) (by kernel_rfl) (by kernel_rfl) ?_;intro g_ hgro_;show AOps .held _ _ _ [_] _ _;refine zn ?_;refine j6 ?_;intro k_ hk_;refine nz ?_;refine j230 ?_;refine AW.block ?_)
     (apply AW.loopR [108,107,89,88,87,10,72,71,70,9,58,57,56,5,4,3,2] [2,3,1,0] (fun k:Nat=>([(109,litI k),(14,.own 40 9 1 ((xs.take k).map (strE∘nameF so at')))]:List (Nat×AV))) (fun k:Nat=>([(40,some .row)]:List (Nat×Option Ob))) (fun k:Nat=>k≤xs.length) (fun k:Nat=>xs.length - k) (0);(conv=>lhs;simp only[Nf.lpR,Nf.all,Nat.reduceBEq,reduceAdd,reduceSub]);(all_goals skip))
     ·exact Nat.zero_le _
     ·exact j52
     rintro k hk5
     by_cases hlt5:k<xs.length
     ·have hnm:=hname _ (hr3 _ (List.getElem_mem hlt5))
      (refine j7 ?_;(focus ((with_reducible apply AOps.index_map);(iterate 7 exact rfl);rotate_left;omega));refine zr ?_;refine j3 ?_;refine j98 ?_;refine AOps.move_own rfl rfl rfl ?_;refine j100 ?_;(with_reducible apply AOps.load_bs);(iterate 3 exact rfl);(repeat' first|exact Sub.nil|apply Sub.take|apply Sub.skip);(iterate 3 exact rfl);refine zm ?_;refine zA (hnm) ?_;refine j81 ?_;(with_reducible apply AOps.appendS);exact rfl;(first|exact .pv rfl|exact .own rfl|exact .nil rfl);(iterate 9 exact rfl);(first|omega|(simp only[List.length_map,List.length_append,List.length_cons,List.length_nil,List.length_drop,List.length_take,List.length_set,chunk_len];omega));refine nz ?_;refine j136 ?_)
      exact j14
     obtain rfl:k=xs.length:=by omega
     rw[List.take_length]
     (refine j329 ?_)
     exact⟨(1,l++ [PartM.str (mkS (tupT so at' (ss[i][k].1) (ss[i][k].2)[0]))].flatMap partT),⟨by omega,pfh⟩,(by show(ss[i][k].2).length - 1<(ss[i][k].2).length - 0;omega),weak rfl (by(refine⟨.intE (by first|with_reducible rfl|(rfl)),?_⟩;refine⟨.intE (by first|with_reducible rfl|(rfl)),?_⟩;refine⟨.pvE (by first|with_reducible rfl|(rfl)),?_⟩;(iterate 3 refine⟨.intE (by first|with_reducible rfl|(rfl)),?_⟩);(iterate 2 refine⟨.pvE (by first|with_reducible rfl|(rfl)),?_⟩);(iterate 2 refine⟨.intE (by first|with_reducible rfl|(rfl)),?_⟩);refine⟨.pvE (by first|with_reducible rfl|(rfl)),?_⟩;(iterate 4 refine⟨.eq rfl rfl,?_⟩);exact trivial)) (by(refine⟨.box _ rfl ?_,?_⟩;refine⟨.eq rfl rfl,?_⟩;refine⟨.ownE (by first|with_reducible rfl|(rfl)) rfl,?_⟩;exact trivial;refine⟨.row rfl,?_⟩;refine⟨.box _ rfl ?_,?_⟩;refine⟨.pvE (by first|with_reducible rfl|(rfl)),?_⟩;refine⟨.intE (by first|with_reducible rfl|(rfl)),?_⟩;refine⟨.pvE (by first|with_reducible rfl|(rfl)),?_⟩;refine⟨.intE (by first|with_reducible rfl|(rfl)),?_⟩;exact trivial;refine⟨.box _ rfl ?_,?_⟩;(iterate 2 refine⟨.pvE (by first|with_reducible rfl|(rfl)),?_⟩);(iterate 2 refine⟨.eq rfl rfl,?_⟩);(iterate 2 exact trivial))) rfl⟩
    ·rw[restT_s h0 hlt4,List.append_assoc,List.append_assoc] at hinv
     have pgh:=step_put (ps:=[.str (mkS [44,32])]) hinv (by simp only[List.flatMap_cons,List.flatMap_nil,List.append_assoc,List.nil_append,partT_s,partT_k,partT_n];rfl) hlen
     have pg:=put_fn l [.str (mkS [44,32])] (by intro p hp;simp only[List.mem_cons,List.not_mem_nil,or_false] at hp;subst hp;show ByteArray.size _≤_;simp [mk_size]) (by simp) pgh.1
     have pgh:=pgh.2
     unfold WB at pg
     have pfh:=step_put (ps:=[.str (mkS (tupT so at' (ss[i][k].1) (ss[i][k].2)[j]))]) pgh (by simp only[List.flatMap_cons,List.flatMap_nil,List.append_assoc,List.nil_append,partT_s,partT_k,partT_n];rfl) hlen
     have pf:=put_fn (l++ [PartM.str (mkS [44,32])].flatMap partT) [.str (mkS (tupT so at' (ss[i][k].1) (ss[i][k].2)[j]))] (by intro p hp;simp only[List.mem_cons,List.not_mem_nil,or_false] at hp;subst hp;show ByteArray.size _≤_;rw[mk_size];omega) (by simp) pfh.1
     have pfh:=pfh.2
     unfold WB at pf
     (refine j303 ?_;(focus ((with_reducible apply AOps.index_map);(iterate 7 exact rfl);rotate_left;omega));refine zr ?_;refine j101 ?_;refine j63 ?_;refine j340 ?_;refine j98 ?_;refine j203 ?_;refine nz ?_;refine zX (pg) ?_;refine j102 ?_;refine j180 ?_;refine j3 ?_;(iterate 2 refine zo ?_);refine AW.regionM [0,1,2,3,4,5,6,7,10] [] rfl (by assumption) (by kernel_rfl) (by kernel_rfl) rfl ?_;show AOps .held _ _ _ [_,_,_,_,_,_,_,_,_] _ _;refine AOps.fieldAddrN 33 0 0 rfl rfl rfl rfl ?_;(with_reducible apply AOps.load_bs);(iterate 3 exact rfl);(repeat' first|exact Sub.nil|apply Sub.take|apply Sub.skip);(iterate 3 exact rfl);(iterate 2 refine zm ?_);(focus ((with_reducible apply AOps.index_map);(iterate 7 exact rfl);rotate_left;omega));refine AOps.fieldAddr_rN 54 0 0 1 rfl rfl rfl rfl ?_;refine nz ?_;refine zr ?_;(iterate 2 refine zm ?_);refine j6 ?_;intro k_ hk_;refine nz ?_;refine AR.step1M (i:=8) rfl (by kernel_rfl) rfl ?_;intro g_ hgro_ hw_;refine zP (hT) ?_;refine j6 ?_;refine AR.readsM [9] (by kernel_rfl) (by kernel_rfl) (by kernel_rfl) (by kernel_rfl) ?_;intro g_ hgro_;show AOps .held _ _ _ [_] _ _;refine zn ?_;refine j6 ?_;intro k_ hk_;refine nz ?_;refine j230 ?_;refine AW.block ?_)
     (apply AW.loopR [108,107,89,88,87,10,72,71,70,9,58,57,56,5,4,3,2] [2,3,1,0] (fun k:Nat=>([(109,litI k),(14,.own 40 9 1 ((xs.take k).map (strE∘nameF so at')))]:List (Nat×AV))) (fun k:Nat=>([(40,some .row)]:List (Nat×Option Ob))) (fun k:Nat=>k≤xs.length) (fun k:Nat=>xs.length - k) (0);(conv=>lhs;simp only[Nf.lpR,Nf.all,Nat.reduceBEq,reduceAdd,reduceSub]);(all_goals skip))
     ·exact Nat.zero_le _
     ·exact j52
     rintro k hk5
     by_cases hlt5:k<xs.length
     ·have hnm:=hname _ (hr3 _ (List.getElem_mem hlt5))
      (refine j7 ?_;(focus ((with_reducible apply AOps.index_map);(iterate 7 exact rfl);rotate_left;omega));refine zr ?_;refine j3 ?_;refine j98 ?_;refine AOps.move_own rfl rfl rfl ?_;refine j100 ?_;(with_reducible apply AOps.load_bs);(iterate 3 exact rfl);(repeat' first|exact Sub.nil|apply Sub.take|apply Sub.skip);(iterate 3 exact rfl);refine zm ?_;refine zA (hnm) ?_;refine j81 ?_;(with_reducible apply AOps.appendS);exact rfl;(first|exact .pv rfl|exact .own rfl|exact .nil rfl);(iterate 9 exact rfl);(first|omega|(simp only[List.length_map,List.length_append,List.length_cons,List.length_nil,List.length_drop,List.length_take,List.length_set,chunk_len];omega));refine nz ?_;refine j136 ?_)
      exact j14
     obtain rfl:k=xs.length:=by omega
     rw[List.take_length]
     (refine j329 ?_)
     exact⟨(j+1,_),⟨by omega,pfh⟩,(by show(ss[i][k].2).length - (j+1)<(ss[i][k].2).length - j;omega),weak rfl (by(refine⟨.intE (by first|with_reducible rfl|(rfl)),?_⟩;refine⟨.intE (by first|with_reducible rfl|(rfl)),?_⟩;refine⟨.pvE (by first|with_reducible rfl|(rfl)),?_⟩;(iterate 3 refine⟨.intE (by first|with_reducible rfl|(rfl)),?_⟩);(iterate 2 refine⟨.pvE (by first|with_reducible rfl|(rfl)),?_⟩);(iterate 2 refine⟨.intE (by first|with_reducible rfl|(rfl)),?_⟩);refine⟨.pvE (by first|with_reducible rfl|(rfl)),?_⟩;(iterate 4 refine⟨.eq rfl rfl,?_⟩);exact trivial)) (by(refine⟨.box _ rfl ?_,?_⟩;refine⟨.eq rfl rfl,?_⟩;refine⟨.ownE (by first|with_reducible rfl|(rfl)) rfl,?_⟩;exact trivial;refine⟨.row rfl,?_⟩;refine⟨.box _ rfl ?_,?_⟩;refine⟨.pvE (by first|with_reducible rfl|(rfl)),?_⟩;refine⟨.intE (by first|with_reducible rfl|(rfl)),?_⟩;refine⟨.pvE (by first|with_reducible rfl|(rfl)),?_⟩;refine⟨.intE (by first|with_reducible rfl|(rfl)),?_⟩;exact trivial;refine⟨.box _ rfl ?_,?_⟩;(iterate 2 refine⟨.pvE (by first|with_reducible rfl|(rfl)),?_⟩);(iterate 2 refine⟨.eq rfl rfl,?_⟩);(iterate 2 exact trivial))) rfl⟩
   ·obtain rfl:j=(ss[i][k].2).length:=by omega
    rw[restT_e,List.nil_append] at hinv
    have peh:=step_put (ps:=[.str (mkS [125,10])]) hinv (by simp only[List.flatMap_cons,List.flatMap_nil,List.append_assoc,List.nil_append,partT_s,partT_k,partT_n];rfl) hlen
    have pe:=put_fn l [.str (mkS [125,10])] (by intro p hp;simp only[List.mem_cons,List.not_mem_nil,or_false] at hp;subst hp;show ByteArray.size _≤_;simp [mk_size]) (by simp) peh.1
    have peh:=peh.2
    unfold WB at pe
    rw[hR2] at peh
    (refine j46 ?_;refine j98 ?_;refine j203 ?_;refine nz ?_;refine zX (pe) ?_;refine j102 ?_;refine AOps.nil ?_;refine j8 ?_;refine j279 ?_)
    exact⟨(k+1,l++ [PartM.str (mkS [125,10])].flatMap partT),⟨by omega,peh⟩,(by show fs.length - (k+1)<fs.length - k;omega),weak rfl (by(refine⟨.intE (by first|with_reducible rfl|(rfl)),?_⟩;refine⟨.intE (by first|with_reducible rfl|(rfl)),?_⟩;(iterate 2 refine⟨.pvE (by first|with_reducible rfl|(rfl)),?_⟩);(iterate 2 refine⟨.intE (by first|with_reducible rfl|(rfl)),?_⟩);refine⟨.pvE (by first|with_reducible rfl|(rfl)),?_⟩;(iterate 4 refine⟨.eq rfl rfl,?_⟩);exact trivial)) (by(refine⟨.box _ rfl ?_,?_⟩;refine⟨.eq rfl rfl,?_⟩;refine⟨.ownE (by first|with_reducible rfl|(rfl)) rfl,?_⟩;exact trivial;refine⟨.row rfl,?_⟩;refine⟨.box _ rfl ?_,?_⟩;refine⟨.pvE (by first|with_reducible rfl|(rfl)),?_⟩;refine⟨.intE (by first|with_reducible rfl|(rfl)),?_⟩;refine⟨.pvE (by first|with_reducible rfl|(rfl)),?_⟩;refine⟨.intE (by first|with_reducible rfl|(rfl)),?_⟩;exact trivial;refine⟨.box _ rfl ?_,?_⟩;(iterate 2 refine⟨.pvE (by first|with_reducible rfl|(rfl)),?_⟩);(iterate 2 refine⟨.eq rfl rfl,?_⟩);(iterate 2 exact trivial))) rfl⟩
  ·obtain rfl:k=fs.length:=by omega
   rw[List.drop_length] at hinv
   unfold linesT at hinv
   rw[List.nil_append,hR1] at hinv
   (refine j305 ?_;refine j88 ?_)
   exact⟨(i+1,l),⟨by omega,by rw[Int.natCast_add];exact hinv⟩,(by show ss.length - (i+1)<ss.length - i;omega),weak rfl (by(refine⟨.intE (by first|with_reducible rfl|(rfl)),?_⟩;refine⟨.intE (by first|with_reducible rfl|(rfl)),?_⟩;refine⟨.pvE (by first|with_reducible rfl|(rfl)),?_⟩;(iterate 4 refine⟨.eq rfl rfl,?_⟩);exact trivial)) (by(refine⟨.box _ rfl ?_,?_⟩;refine⟨.eq rfl rfl,?_⟩;refine⟨.ownE (by first|with_reducible rfl|(rfl)) rfl,?_⟩;exact trivial;refine⟨.row rfl,?_⟩;refine⟨.box _ rfl ?_,?_⟩;refine⟨.pvE (by first|with_reducible rfl|(rfl)),?_⟩;refine⟨.intE (by first|with_reducible rfl|(rfl)),?_⟩;refine⟨.pvE (by first|with_reducible rfl|(rfl)),?_⟩;refine⟨.intE (by first|with_reducible rfl|(rfl)),?_⟩;exact trivial;refine⟨.box _ rfl ?_,?_⟩;(iterate 2 refine⟨.pvE (by first|with_reducible rfl|(rfl)),?_⟩);(iterate 2 refine⟨.eq rfl rfl,?_⟩);(iterate 2 exact trivial))) rfl⟩
 ·obtain rfl:i=ss.length:=by omega
  rw[List.drop_length] at hinv
  unfold statesT at hinv
  rw[List.append_nil] at hinv
  subst hinv
  (refine j215 ?_;refine AOps.fieldAddrN 85 0 0 rfl rfl rfl rfl ?_;refine zX (hstr) ?_;refine j102 ?_;refine j11 ?_)
  (apply ends_ret;(exact Res.one (.tmp rfl rfl));(exact Le.pv _))
end Go.Ab
/- Chapter 34:a valid model can be written,and its text is short. -/
namespace Go.Ab
open Go Go.Proofs
set_option maxRecDepth 20000
set_option maxHeartbeats 4000000
theorem cols_small {at':List Int} (h:sizesOk at'=true) {l:List Int} (hl:l.length≤3):cols (colL at' l)≤125:=by
 have hz:∀s:Int,(at'.getD s.toNat 0).toNat≤5:=by
  intro s
  by_cases hk:s.toNat<at'.length
  ·rw[getD_at hk]
   have:=sizesOk_all.1 h _ (List.getElem_mem hk)
   omega
  ·rw[List.getD_eq_getElem?_getD,List.getElem?_eq_none (by omega)];simp
 match l,hl with
 |[],_=>simp [cols,colL]
 |[a],_=>
  simp only[cols,colL,List.map_cons,List.map_nil,List.foldr_cons,List.foldr_nil,Nat.mul_one]
  have:=hz a;omega
 |[a,b],_=>
  simp only[cols,colL,List.map_cons,List.map_nil,List.foldr_cons,List.foldr_nil,Nat.mul_one]
  exact Nat.le_trans (Nat.mul_le_mul (hz a) (hz b)) (by decide)
 |[a,b,c],_=>
  simp only[cols,colL,List.map_cons,List.map_nil,List.foldr_cons,List.foldr_nil,Nat.mul_one]
  exact Nat.le_trans (Nat.mul_le_mul (hz a) (Nat.mul_le_mul (hz b) (hz c))) (by decide)
 |a::b::c::d::r,hl=>simp at hl
theorem valid_spec {full:List Int→RelM} {s:SpecM} {m:ModM} (h:validB full s m=true):scopeOk s.sorts.length m.atoms m.steps=true∧((m.states.length:Int)=m.steps∧0≤m.loop∧m.loop<m.states.length)∧fieldsB s.sorts.length s.fields=true∧statesB m.atoms.sum full s.fields (m.states.headD []) m.states=true:=by
 unfold validB shapeB at h
 simp only[Bool.and_eq_true,decide_eq_true_eq] at h
 exact⟨h.1,h.2.1,h.2.2.1,h.2.2.2⟩
theorem stateB_len {n:Int} {full:List Int→RelM} {fs:List FieldM} {s0 s:List RelM} (h:stateB n full fs s0 s=true):s.length=fs.length:=by
 unfold stateB at h
 rw[Bool.and_eq_true,decide_eq_true_eq] at h
 exact h.1
structure SpP (s:SpecM):Prop where
 so:s.sorts.length≤10
 nm:∀q∈s.sorts,q.1.size≤16∧∃c r,sL q.1=c::r∧c≠125
 fs:s.fields.length≤10
 fz:∀f∈s.fields,f.name.size≤16∧f.sorts.length≤10
theorem SpP.b {s:SpecM} (h:SpP s):SpB s:=⟨by have:=h.so;omega,fun q hq=>by have:=(h.nm q hq).1;omega,by have:=h.fs;omega,fun f hf=>by have:=h.fz f hf;omega⟩
theorem incrB_inc {top:Int}:∀{l:List Int} {last:Int},incrB top last l=true→Inc l∧∀x∈l,last<x∧x<top
 |[],_,_=>⟨List.Pairwise.nil,fun x hx=>by cases hx⟩
 |a::l,last,h=>by
  unfold incrB at h
  rw[Bool.and_eq_true,decide_eq_true_eq] at h
  obtain⟨h1,h2⟩:=incrB_inc h.2
  refine⟨List.pairwise_cons.2 ⟨fun x hx=>(h2 x hx).1,h1⟩,fun x hx=>?_⟩
  rcases List.mem_cons.1 hx with rfl|hx
  ·exact h.1
  ·have:=h2 x hx;omega
theorem inc_sub_len {l m:List Int} (hl:Inc l) (hm:Inc m) (h:∀t∈l,t∈m):l.length≤m.length:=by
 have e:l=m.filter fun t=>decide (t∈l):=inc_ext hl (hm.sublist List.filter_sublist) fun t=>by
  rw[List.mem_filter,decide_eq_true_eq]
  exact⟨fun ht=>⟨h t ht,ht⟩,fun ht=>ht.2⟩
 rw[e]
 exact List.length_filter_le _ _
theorem getDS {so:List SortM} {n:Nat} (hs:n<so.length):so.getD n (⟨#[]⟩,false)=so[n]:=by
 rw[List.getD_eq_getElem?_getD,List.getElem?_eq_getElem hs];rfl
theorem scope5 {k:Nat} {at':List Int} {st:Int} (h:scopeOk k at' st=true):Ok5 at':=by
 obtain⟨h1,h2,h3,h4,h5,h6,h7⟩:=scopeOk_spec h
 exact⟨by omega,sizesOk_all.1 h5,h6⟩
theorem nameT_in {so:List SortM} {at':List Int} (h5:Ok5 at') {x:Int} {k:Nat} (hk:k<at'.length) (h0:0≤x) (h1:(at'.take k).sum≤x) (h2:x<(at'.take (k+1)).sum):nameT so at' x=sL (so.getD k (⟨#[]⟩,false)).1++([36]++digT (x - (at'.take k).sum)):=by
 have hs:=(srt_at h5.nn h0 hk).2 ⟨h1,h2⟩
 unfold nameT nameF
 rw[if_pos (by omega),hs,Int.toNat_natCast]
 show(_++_++_:ByteArray).data.toList=_
 simp only[ByteArray.data_append,Array.toList_append,List.append_assoc]
 rfl
theorem in_all {so:List SortM} {at':List Int} (h5:Ok5 at') (hn:∀q∈so,∃c r,sL q.1=c::r∧c≠125) (hl:so.length=at'.length):∀{ks xs:List Int},ks.length=xs.length→(∀k∈ks,0≤k∧k<at'.length)→(∀x∈xs,0≤x)→fitsB at' ks xs=true→InAll so at' ks xs
 |[],[],_,_,_,_=>trivial
 |k::ks,x::xs,h1,h2,h3,h4=>by
  unfold fitsB at h4
  rw[Bool.and_eq_true,decide_eq_true_eq] at h4
  have hk:=h2 k (by simp)
  have h0:=h3 x (by simp)
  obtain⟨n,rfl⟩:∃n:Nat,k=n:=⟨k.toNat,by omega⟩
  have hn':n<at'.length:=by omega
  have h6:=(sortF_at h5.nn h0 hn').1 h4.1
  have h7:(at'.take (n+1)).sum=(at'.take n).sum+at'.getD n 0:=by
   rw[getD_at hn',sum_snoc at' hn']
  have h8:=h5.each _ (List.getElem_mem hn')
  refine⟨⟨?_,?_,?_,?_,?_⟩,in_all h5 hn hl (by simpa using h1) (fun k hk=>h2 k (by simp [hk])) (fun x hx=>h3 x (by simp [hx])) h4.2⟩
  ·rw[Int.toNat_natCast];exact h6.1
  ·rw[Int.toNat_natCast,← h7];exact h6.2
  ·rw[Int.toNat_natCast]
   have:=h6.2
   rw[h7,getD_at hn'] at this
   omega
  ·rw[Int.toNat_natCast];exact nameT_in h5 hn' h0 h6.1 h6.2
  ·rw[Int.toNat_natCast]
   have hs:n<so.length:=by omega
   rw[getDS hs]
   exact hn _ (List.getElem_mem hs)
theorem rk_ok {so:List SortM} {at':List Int} (h5:Ok5 at') (hn:∀q∈so,∃c r,sL q.1=c::r∧c≠125) (hl:so.length=at'.length) {ks:List Int} (hk:∀k∈ks,0≤k∧k<at'.length) (hk3:1≤ks.length∧ks.length≤3) {t:Int} (ht:t∈(fullR at' ks).2):RkOk so at' ks t∧t≤9223372036854775807∧(tupF at'.sum (ks.length:Int) t).length=ks.length∧∀x∈tupF at'.sum (ks.length:Int) t,0≤x∧x≤1000:=by
 obtain⟨h1,h2,h3⟩:=full_mem h5.nn hk ht
 have hp:=h5.pos (by
  cases ks with
  |nil=>simp at hk3
  |cons k ks=>have:=hk k (by simp);omega)
 have hsum:=h5.sum
 have e:=tupF_pos hk3.2 h1 h2
 have hin:=digL_in hp ks.length h1
 refine⟨⟨?_,?_⟩,?_,?_,?_⟩
 ·rw[e]
  exact in_all h5 hn hl (digL_len _ _ _).symm hk (fun x hx=>(hin x hx).1) h3
 ·rw[e]
  unfold rnk
  rw[if_pos (by rw[digL_len];omega),rank_dig hp _ h1 h2]
 ·obtain⟨n,hn⟩:∃n:Nat,at'.sum=n:=⟨at'.sum.toNat,by omega⟩
  rw[hn] at h2
  have h6:=Nat.pow_le_pow_left (show n≤12 by omega) ks.length
  have h7:12 ^ ks.length≤1728:=by
   rcases(by omega:ks.length=1∨ks.length=2∨ks.length=3) with h|h|h<;>rw[h]<;>decide
  have h8:((n:Int) ^ ks.length)=((n ^ ks.length:Nat):Int):=by simp
  omega
 ·rw[e,digL_len]
 ·rw[e]
  intro x hx
  have:=hin x hx
  omega
theorem valid_rel {s:SpecM} {m:ModM} (hv:validB (fullR m.atoms) s m=true) {st:List RelM} (hst:st∈m.states):st.length=s.fields.length∧∀j (h1:j<s.fields.length) (h2:j<st.length),colsB s.sorts.length s.fields[j].sorts=true∧st[j].1=s.fields[j].sorts.length∧relOk m.atoms.sum st[j]=true∧∀t∈st[j].2,t∈(fullR m.atoms s.fields[j].sorts).2:=by
 obtain⟨q1,q2,q3,q4⟩:=valid_spec hv
 unfold statesB at q4
 rw[List.all_eq_true] at q4
 have hb:=q4 st hst
 have hl:=stateB_len hb
 have hne:m.states.headD []∈m.states:=by
  cases hs:m.states with
  |nil=>rw[hs] at hst;simp at hst
  |cons a l=>simp
 have hl0:=stateB_len (q4 _ hne)
 refine⟨hl,fun j h1 h2=>?_⟩
 unfold stateB at hb
 rw[decide_eq_true hl,Bool.true_and,cellsB_iff hl hl0] at hb
 have:=hb j h1
 unfold cellB at this
 simp only[Bool.and_eq_true,decide_eq_true_eq] at this
 unfold fieldsB at q3
 rw[List.all_eq_true] at q3
 refine⟨q3 _ (List.getElem_mem h1),this.1,this.2.1,fun t ht=>?_⟩
 have hs:=this.2.2.1
 unfold subL at hs
 rw[List.all_eq_true] at hs
 simpa using hs t ht
theorem rels_of {so:List SortM} {at':List Int}:∀{fs:List FieldM} {st:List RelM},st.length=fs.length→(∀j (h1:j<fs.length) (h2:j<st.length),RelT so at' fs[j] st[j])→RelsT so at' fs st
 |[],[],_,_=>trivial
 |f::fs,r::st,h,h'=>⟨h' 0 (by simp) (by simp),rels_of (by simpa using h) fun j h1 h2=>h' (j+1) (by simpa using h1) (by simpa using h2)⟩
theorem cols_spec {k:Nat} {l:List Int} (h:colsB k l=true):(1≤l.length∧l.length≤3)∧∀x∈l,0≤x∧x<k:=by
 unfold colsB at h
 rw[Bool.and_eq_true,decide_eq_true_eq] at h
 exact⟨h.1,insB_all.1 h.2⟩
theorem tab_ok {s:SpecM} {m:ModM} (hp:SpP s) (hv:validB (fullR m.atoms) s m=true):TabOk s m:=by
 obtain⟨q1,q2,q3,q4⟩:=valid_spec hv
 have h5:=scope5 q1
 have hsl:=(scopeOk_spec q1).2.1
 refine⟨q1,?_,q2.1,q2.2,fun st hst=>?_⟩
 ·unfold sortsIn
  rw[List.all_eq_true]
  unfold fieldsB at q3
  rw[List.all_eq_true] at q3
  intro f hf
  have:=q3 f hf
  unfold colsB at this
  rw[Bool.and_eq_true] at this
  exact this.2
 ·obtain⟨hl,hr⟩:=valid_rel hv hst
  refine rels_of hl fun j h1 h2=>?_
  obtain⟨r1,r2,r3,r4⟩:=hr j h1 h2
  obtain⟨c1,c2⟩:=cols_spec r1
  exact⟨r2,by intro e;rw[e] at c1;simp at c1,fun t ht=>(rk_ok h5 (fun q hq=>(hp.nm q hq).2) hsl.symm (by rw[hsl];exact c2) c1 (r4 t ht)).1⟩
theorem flat_le2 {α:Type} (f:α→Bt) (B:Nat):∀(l:List α),(∀x∈l,(f x).length≤B)→(l.flatMap f).length≤l.length*B
 |[],_=>by simp
 |x::l,h=>by
  have h1:=h x (by simp)
  have h2:=flat_le2 f B l fun y hy=>h y (by simp [hy])
  rw[List.flatMap_cons,List.length_append,List.length_cons,Nat.succ_mul]
  omega
theorem join_le (sep:Bt) (B:Nat) (l:List Bt) (h:∀x∈l,x.length≤B):(joinT sep l).length≤l.length*(sep.length+B):=by
 cases l with
 |nil=>simp [joinT]
 |cons x l=>
  unfold joinT
  have h1:=h x (by simp)
  have h2:=flat_le2 (fun y=>sep++y) (sep.length+B) l fun y hy=>by have:=h y (by simp [hy]);simp only[List.length_append];omega
  rw[List.length_append,List.length_cons,Nat.succ_mul]
  omega
theorem digT_le {z:Int} (h:z<100):(digT z).length≤2:=dec_small z.toNat (by omega)
theorem nameT_le {so:List SortM} {at':List Int} (h5:Ok5 at') (hn:∀q∈so,q.1.size≤16) (x:Int):(nameT so at' x).length≤20:=by
 rcases name_cases h5.nn x with h|⟨k,hk,h1,h2,h3⟩
 ·unfold nameT nameF
  rw[h,if_neg (by omega)];simp
 ·have h0:0≤x:=by
   by_cases h0:x<0
   ·rw[srt_lo h0] at h1;omega
   ·omega
  have h7:(at'.take (k+1)).sum=(at'.take k).sum+at'.getD k 0:=by
   rw[getD_at hk,sum_snoc at' hk]
  rw[nameT_in h5 hk h0 h2 (by omega)]
  have h8:=h5.each _ (List.getElem_mem hk)
  rw[getD_at hk] at h3
  have h9:=digT_le (z:=x - (at'.take k).sum) (by omega)
  have h10:(sL (so.getD k (⟨#[]⟩,false)).1).length≤16:=by
   rw[mk_len]
   by_cases hs:k<so.length
   ·rw[getDS hs];exact hn _ (List.getElem_mem hs)
   ·rw[List.getD_eq_getElem?_getD,List.getElem?_eq_none (by omega)];exact Nat.zero_le _
  simp only[List.length_append,List.length_cons,List.length_nil]
  omega
theorem lineT_le {so:List SortM} {at':List Int} (h5:Ok5 at') (hn:∀q∈so,q.1.size≤16) {f:FieldM} {r:RelM} (hf:f.name.size≤16) (hr:r.2.length≤125) (ht:∀t∈r.2,(tupF at'.sum r.1 t).length≤3):(lineT so at' f r).length≤8525:=by
 unfold lineT
 have h1:∀x∈r.2.map (tupT so at' r.1),x.length≤66:=by
  intro x hx
  obtain⟨t,ht',rfl⟩:=List.mem_map.1 hx
  unfold tupT
  have h2:=join_le [45,62] 20 ((tupF at'.sum r.1 t).map (nameT so at')) fun y hy=>by
   obtain⟨z,_,rfl⟩:=List.mem_map.1 hy
   exact nameT_le h5 hn z
  have h3:=ht t ht'
  rw[List.length_map] at h2
  simp only[List.length_cons,List.length_nil] at h2
  omega
 have h2:=join_le [44,32] 66 _ h1
 rw[List.length_map] at h2
 have h3:(sL f.name).length≤16:=hf
 simp only[List.length_append,List.length_cons,List.length_nil] at h2 ⊢
 omega
theorem linesT_le {so:List SortM} {at':List Int} (B:Nat):∀{fs:List FieldM} {st:List RelM},(∀j (h1:j<fs.length) (h2:j<st.length),(lineT so at' fs[j] st[j]).length≤B)→(linesT so at' fs st).length≤fs.length*B
 |[],_,_=>by simp [linesT]
 |_::_,[],_=>by simp [linesT]
 |f::fs,r::st,h=>by
  have h1:=h 0 (by simp) (by simp)
  have h2:=linesT_le B (fs:=fs) (st:=st) fun j a b=>h (j+1) (by simpa using a) (by simpa using b)
  unfold linesT
  rw[List.length_append,List.length_cons,Nat.succ_mul]
  simp only[List.getElem_cons_zero] at h1
  omega
theorem statesT_le {so:List SortM} {at':List Int} {fs:List FieldM} (B:Nat):∀{l:List (List RelM)} {i:Int},0≤i→i+l.length≤100→(∀st∈l,(linesT so at' fs st).length≤B)→(statesT so at' fs i l).length≤l.length*(B+10)
 |[],_,_,_,_=>by simp [statesT]
 |st::l,i,h0,hi,h=>by
  have h1:=h st (by simp)
  have h2:=statesT_le B (l:=l) (i:=i+1) (by omega) (by simp only[List.length_cons] at hi;omega) fun st hst=>h st (by simp [hst])
  have h3:=digT_le (z:=i) (by simp only[List.length_cons] at hi;omega)
  unfold statesT stateT
  rw[List.length_cons,Nat.succ_mul]
  simp only[List.length_append,List.length_cons,List.length_nil]
  omega
theorem atomsT_le:∀{so:List SortM} {at':List Int},(∀q∈so,q.1.size≤16)→(∀x∈at',x<100)→(atomsT so at').length≤so.length*20
 |[],_,_,_=>by simp [atomsT]
 |_::_,[],_,_=>by simp [atomsT]
 |q::so,a::at',h,h'=>by
  have h1:=atomsT_le (so:=so) (at':=at') (fun q hq=>h q (by simp [hq])) fun x hx=>h' x (by simp [hx])
  have h2:(sL q.1).length≤16:=h q (by simp)
  have h3:=digT_le (h' a (by simp))
  unfold atomsT
  rw[List.length_cons,Nat.succ_mul]
  simp only[List.length_append,List.length_cons,List.length_nil]
  omega
theorem fmt_le {s:SpecM} {m:ModM} (hp:SpP s) (hv:validB (fullR m.atoms) s m=true):(fmtT s m).length≤400000:=by
 obtain⟨q1,q2,q3,q4⟩:=valid_spec hv
 have h5:=scope5 q1
 obtain⟨k1,k2,k3,k4,k5,k6,k7⟩:=scopeOk_spec q1
 have hn:=fun q hq=>(hp.nm q hq).1
 have hfs:=hp.fs
 have hL:∀st∈m.states,(linesT s.sorts m.atoms s.fields st).length≤10*8525:=fun st hst=>by
  obtain⟨hl,hr⟩:=valid_rel hv hst
  refine Nat.le_trans (linesT_le 8525 fun j h1 h2=>?_) (Nat.mul_le_mul_right _ hfs)
  obtain⟨r1,r2,r3,r4⟩:=hr j h1 h2
  obtain⟨c1,c2⟩:=cols_spec r1
  refine lineT_le h5 hn (hp.fz _ (List.getElem_mem h1)).1 ?_ fun t ht=>?_
  ·unfold relOk at r3
   rw[Bool.and_eq_true] at r3
   have:=inc_sub_len (incrB_inc r3.2).1 (full_inc h5.nn (by rw[k2];exact c2)) r4
   have h7:(fullR m.atoms s.fields[j].sorts).2.length≤125:=by
    show(rks _ _ _).length≤_
    rw[rks_len]
    exact cols_small k5 c1.2
   omega
  ·have:=(rk_ok h5 (fun q hq=>(hp.nm q hq).2) k2.symm (by rw[k2];exact c2) c1 (r4 t ht)).2.2.1
   rw[r2];omega
 have h1:=statesT_le (10*8525) (i:=0) (by omega) (by omega) hL
 have h2:=atomsT_le hn fun x hx=>by have:=h5.each x hx;omega
 have h3:=digT_le (z:=m.steps) (by omega)
 have h4:=digT_le (z:=m.loop) (by omega)
 have h6:m.states.length*(10*8525+10)≤4*(10*8525+10):=Nat.mul_le_mul_right _ (by omega)
 unfold fmtT headT
 simp only[List.length_append,List.length_cons,List.length_nil]
 omega
theorem fmt_ok {s:SpecM} {m:ModM} (hp:SpP s) (hv:validB (fullR m.atoms) s m=true):FmtOk s m:=by
 obtain⟨q1,q2,q3,q4⟩:=valid_spec hv
 have h5:=scope5 q1
 obtain⟨k1,k2,k3,k4,k5,k6,k7⟩:=scopeOk_spec q1
 refine⟨hp.b,h5,k2.symm,by omega,by omega,by omega,fun st hst=>(valid_rel hv hst).1,fun st hst r hr=>?_,by have:=fmt_le hp hv;omega⟩
 obtain⟨hl,hrr⟩:=valid_rel hv hst
 obtain⟨j,hj,rfl⟩:=List.getElem_of_mem hr
 obtain⟨r1,r2,r3,r4⟩:=hrr j (by omega) hj
 obtain⟨c1,c2⟩:=cols_spec r1
 refine⟨by have:=relOk_len r3;omega,fun t ht=>?_⟩
 have h9:=rk_ok h5 (fun q hq=>(hp.nm q hq).2) k2.symm (by rw[k2];exact c2) c1 (r4 t ht)
 rw[r2]
 exact⟨h9.2.1,by rw[h9.2.2.1];omega,h9.2.2.2⟩
end Go.Ab
/- Chapter 34:Parse,walked. -/
namespace Go.Ab
open Go Go.Proofs Go.RowKit
open Nat (reduceAdd reduceSub)
set_option maxRecDepth 20000
set_option maxHeartbeats 4000000
theorem rec_idle (v1 v2:Value) (w:World):CallsDIn Fence.wide 0 Tryz.prog 23 #[v1,v2] .returning w fun e u' w'=>e=.returned (.tuple #[])∧u'=.returning∧w'=w:=by
 refine callsDIn_of_wpSIn Tryz.func23 rfl trivial fun c₀ cs hu=>?_
 apply wpSIn_seq
 apply wpSIn_region
 simp [wpOpsSIn,go_sem,recoverD,hu,Tryz.ntmps23,Exit.thenS]
 apply wpSIn_seq
 apply wpSIn_region
 simp [wpOpsSIn,go_sem,recoverD,hu,Tryz.ntmps23,Exit.thenS]
 refine wpSIn_cond (t:=false) (by simp [Act.eval,Array.replicate]) ?_
 simp only[Bool.false_eq_true,if_false]
 refine wpSIn_of_wpIn rfl (wpIn_skip ?_)
 cases c₀
 simp_all [bodyPostS,results,Tryz.results23]
theorem stA (P:Program) (u c:Value) (t:TypeId) (w:World) (hu:u.oneCell'=true):(store ⟨w.heap.size,0,none⟩ u).run P (w.alloc (.cells #[c] t))=.ok () (w.alloc (.cells #[u] t)):=by
 rw[run_store _ _ _ _ _ hu]
 have h1:(w.alloc (.cells #[c] t)).cell? ⟨w.heap.size,0,none⟩=some c:=by simp [go_sem]
 have h2:(w.alloc (.cells #[c] t)).frozen? ⟨w.heap.size,0,none⟩=false:=by simp [go_sem]
 rw[h1,h2]
 simp only[Bool.false_eq_true,if_false]
 congr 1
 unfold World.setCell World.alloc
 congr 1
 apply Array.ext
 ·simp
 ·intro k h1 h2
  simp only[Array.getElem_modify,Array.getElem_push]
  split<;>split<;>simp_all
  ·rename_i hq_
   obtain⟨rfl,rfl,rfl⟩:=hq_
   rfl
  ·exfalso;omega
theorem rec_pan (b1 b2:Nat) (c1 c2:Array Value) (e1 e2:TypeId) (w:World) (u:Value) (hu1:u.oneCell'=true) (hb:b1≠b2) (hh1:w.heap[b1]? =some (.cells c1 e1 (0,0))) (hc1:c1.size=4) (hh2:w.heap[b2]? =some (.cells c2 e2 (0,0))) (hc2:c2.size=1):
  CallsDIn Fence.wide 0 Tryz.prog 23 #[.pointer (some ⟨b1,0,none⟩),.pointer (some ⟨b2,0,none⟩)] (.panicking [{v:=.iface 60 (.agg #[u]),recovered:=false}]) w fun e u' w'=>e=.returned (.tuple #[])∧u'=.panicking [{v:=.iface 60 (.agg #[u]),recovered:=true}]∧∃o,w'=((w.alloc o).setRow b1 #[.slice none 0 0,.int .i64 0,.slice none 0 0,.int .i64 0]).setRow b2 #[.int .i64 340]:=by
 refine callsDIn_of_wpSIn Tryz.func23 rfl trivial fun c₀ cs hu=>?_
 apply wpSIn_seq
 apply wpSIn_region
 simp [wpOpsSIn,go_sem,recoverD,hu,Tryz.ntmps23,Exit.thenS]
 apply wpSIn_seq
 apply wpSIn_region
 simp [wpOpsSIn,go_sem,recoverD,hu,Tryz.ntmps23,Exit.thenS]
 refine wpSIn_cond (t:=true) (by simp [Act.eval,Array.replicate]) ?_
 simp only[if_true]
 apply wpSIn_seq
 apply wpSIn_seq
 apply wpSIn_region
 have hta:∀w,(Instr.typeAssert (.iface 60 (.agg #[u])) 20 60 true).run Tryz.prog w=.ok (.tuple #[.agg #[u],.bool true]) w:=fun w=>run_ta_yes (by rfl) w
 simp [wpOpsSIn,go_sem,recoverD,hu,Tryz.ntmps23,Exit.thenS,hta]
 rw[stA _ _ _ _ _ hu1]
 simp only[Result.andThen]
 apply wpSIn_seq
 apply wpSIn_region
 simp [wpOpsSIn,go_sem,Exit.thenS]
 refine wpSIn_cond (t:=false) (by simp [Act.eval,Array.replicate]) ?_
 simp only[Bool.false_eq_true,if_false]
 refine wpSIn_of_wpIn rfl (wpIn_skip ?_)
 simp only[Exit.thenS]
 have g1:(w.alloc (.cells #[u] 60)).heap[b1]? =some (.cells c1 e1 (0,0)):=(Lib.alloc_old w _ b1 (heap_lt hh1)).trans hh1
 have g2:(w.alloc (.cells #[u] 60)).heap[b2]? =some (.cells c2 e2 (0,0)):=(Lib.alloc_old w _ b2 (heap_lt hh2)).trans hh2
 generalize hA:(Act.mk _ _)=A
 have a0:A.eval (.tmp 0)=.pointer (some ⟨b1,0,none⟩):=by subst hA;simp [Act.eval,Array.getElem?_append]
 have a1:A.eval (.tmp 1)=.pointer (some ⟨b2,0,none⟩):=by subst hA;simp [Act.eval,Array.getElem?_append]
 have an:A.tmps.size=17:=by subst hA;simp
 have ad:A.defers=[]:=by subst hA;rfl
 clear hA
 refine wpSIn_of_wpIn rfl (wpIn_region_lit (l:=[_,_,_]) ?_)
 refine wpl_plain (ro:=none) rfl rfl fun K hK=>?_
 have hr1:∀w,(execOp A.eval ⟨some 16,.build 33 #[],33, "table.go:163", #[],none⟩).run Tryz.prog w=.ok (.value (.agg #[.slice none 0 0,.int .i64 0,.slice none 0 0,.int .i64 0])) w:=fun w=>by simp [go_sem,execOp]
 unfold Oper.wpF
 rw[hr1]
 simp only[Oper.uponIn]
 refine hK _ _ ?_
 obtain⟨A',hA'⟩:∃A',A'=A.put (some 16) (.agg #[.slice none 0 0,.int .i64 0,.slice none 0 0,.int .i64 0]):=⟨_,rfl⟩
 rw[← hA']
 have a2:A'.eval (.tmp 16)=.agg #[.slice none 0 0,.int .i64 0,.slice none 0 0,.int .i64 0]:=by rw[hA'];simp [Act.put,Act.eval,an]
 have a0:A'.eval (.tmp 0)=.pointer (some ⟨b1,0,none⟩):=by rw[← a0,hA'];simp [Act.put,Act.eval]
 have a1:A'.eval (.tmp 1)=.pointer (some ⟨b2,0,none⟩):=by rw[← a1,hA'];simp [Act.put,Act.eval]
 have ad:A'.defers=[]:=by rw[hA'];exact ad
 clear hA' hr1
 refine wpl_plain (ro:=none) rfl rfl fun K hK=>?_
 unfold Oper.wpF
 rw[run_store_whole (t:=33) a0 g1 (by rw[a2,hc1];rfl) (by rw[hc1];rfl) (by rw[a2];simp [Value.cells,Value.oneCell'])]
 simp only[Oper.uponIn]
 refine hK _ _ ?_
 refine wpl_plain (ro:=none) rfl rfl fun K hK=>?_
 unfold Oper.wpF
 rw[show A'.put none undef=A' from rfl]
 rw[run_store_whole (t:=36) a1 ((setRow_other _ b1 b2 _ (Ne.symm hb)).trans g2) (by rw[hc2];rfl) (by rw[hc2];rfl) (by simp [Value.cells,Value.oneCell',Act.eval])]
 simp only[Oper.uponIn]
 refine hK _ _ ?_
 unfold wpListIn
 rw[a2]
 show bodyPostS _ _ _ _ _ _ _ _ _
 have hz:∀(c₀:Frame) (cs:List Frame) (R:Ending→FrameMode→World→Prop) (A:Act) (m:FrameMode) (W:World),A.defers=[]→R (.returned (.tuple #[])) m W→bodyPostS Tryz.prog Tryz.f23 c₀ cs R .normal A ({c₀ with mode:=m}::cs) W:=by
  intro c₀ cs R A m W h1 h2
  refine⟨h1,m,rfl,?_⟩
  simp [results,Tryz.results23]
  exact h2
 exact hz _ _ _ _ _ _ ad ⟨rfl,rfl,_,rfl⟩
theorem validF (s:SpecM) (m:ModM) (hfs:s.fields.length≤1000):Fn Tryz.prog 15 [spc s,mdl m] (litB (validB (fullR m.atoms) s m)):=
 valid_fn (fullR m.atoms) s m hfs fun hsc f _ hc=>by
  obtain⟨hs1,hs2,hs3,hs4,hs5,hs6,hsm⟩:=scopeOk_spec hsc
  refine⟨?_,full_fn m.atoms m.steps f.sorts (by rw[hs2];exact hc) hsm (by omega)⟩
  show(rks _ _ _).length≤_
  rw[rks_len]
  unfold colsB at hc
  rw[Bool.and_eq_true,decide_eq_true_eq] at hc
  have:=cols_small hs5 (l:=f.sorts) hc.1.2
  omega
def zM:ModM:=⟨[],0,[],0⟩
def parseF (s:SpecM) (t:Bt):ModM×Int:=
 match modelP s t with
 |none=>(zM,340)
 |some (m,_)=>if validB (fullR m.atoms) s m=true∧fmtT s m=t then (m,0) else (zM,340)
attribute [local irreducible] AW AOps thenD inBlockD AR iterEnds roundEndsN inlEnds noGotoD EndsX EndsP EndsR byteAt
theorem parse_fn (sp:SpecM) (hb:SpP sp) {t:Bt} (ht:t.length≤1000000):FnW errT Tryz.prog 9 [spc sp,litS (mkS t)] (.tup [mdl (parseF sp t).1,litI (parseF sp t).2]):=by
 refine FnW.enterR errT_stay (n:=25) Tryz.func9 rfl rfl rfl rfl (by decide) fun g N w0 hro_ hwt_ hmk_ hB_ hw_ hN_ hNN_ hT0=>?_
 skip
 have hmY:=fun {r:Bt} {m:ModM} (h:modelP sp t=some (m,r))=>modelY_fn sp hb.b ht h
 have hmN:=fun(h:modelP sp t=none)=>modelN_fn sp hb.b ht h
 have hval:=fun m:ModM=>validF sp m (by have:=hb.fs;omega)
 have hfm:=fun(m:ModM) (h:validB (fullR m.atoms) sp m=true)=>format_fn sp m (fmt_ok hb h)
 obtain⟨so,fs,p_,q_⟩:=sp
 unfold SB at hmY hmN
 unfold SX at hmN
 refine AW0.region (l:=[_,_,_]) ?_
 refine AO0.eff rfl rfl (Eff.box rfl rfl rfl rfl) (fun _ _ _ _ h=>by cases h) ?_
 refine AO0.eff rfl rfl (Eff.alloc rfl rfl rfl) (fun _ _ _ _ h=>by cases h) ?_
 refine AO0.eff rfl rfl (Eff.alloc rfl rfl rfl) (fun _ _ _ _ h=>by cases h) ?_
 refine AO0.nil ?_
 (try (conv=>rhs;simp only[start,Nf.all,Nat.reduceBEq,reduceAdd,reduceSub]))
 change AW0 _ _ _ _ ⟨25,[(5,AV.ptr 2 0),(4,AV.ptr 1 0),(2,AV.ptr 0 0),(0,spc ⟨so,fs,p_,q_⟩),(1,litS (mkS t))],
  [(2,some (.box [litI 0])),(1,some (.box [.pv (.lit (.slice none 0 0)),litI 0,.pv (.lit (.slice none 0 0)),litI 0])),(0,some (.box [.pv (.slice 2 (so.map encSo)),.pv (.slice 3 (fs.map encF)),slv p_,slv q_]))],3⟩
 refine AW0.defer hro_ hwt_ rfl rfl rfl rfl rfl rfl hmk_ fun g' v1 v2 hro' hwt' hgi_ hN0' hbase' hheld'=>?_
 have hT:TB errT g':=hT0.gi hgi_
 unfold parseF
 cases hm:modelP ⟨so,fs,p_,q_⟩ t with
 |none=>
  have c1:=hmN hm
  refine AWr.of (Q:=EndsR Tryz.prog [.cell 4 33,.cell 5 36] (.tup [mdl zM,litI 340]) 60 1 2 4 1 4 5) ?_ (endsR_post (T:=errT) (N:=N) (w0:=w0) (fc:=23) (Z1:= #[.slice none 0 0,.int .i64 0,.slice none 0 0,.int .i64 0]) (Z2:= #[.int .i64 340]) (v1:=v1) (v2:=v2) rfl hwt' (hgi_.1.trans hB_) (hgi_.2.trans hw_) (hN0'.trans hN_) hNN_ hbase' hheld' (fun vals w=>by simp [callFunc,Tryz.func23,Tryz.f23]) (by decide) rfl rfl (fun w=>rec_idle v1 v2 w) (fun b1 b2 c1 c2 e1 e2 w u q1_ q2_ hu hb hh1 hc1 hh2 hc2=>by
  subst q1_
  subst q2_
  exact rec_pan b1 b2 c1 c2 e1 e2 w u hu hb hh1 hc1 hh2 hc2) rfl rfl fun δ' h1 h2 h3 h4=>⟨_,Res.two (.cell rfl h1 h3 rfl) (.cell1 rfl h2 h4 rfl),?_⟩)
  ·(refine j2 ?_;refine zm ?_;refine AOps.buildN 64 [0] rfl rfl rfl rfl rfl rfl rfl rfl rfl ?_;refine nz ?_;refine j40 ?_;refine j27 ?_;(with_reducible apply AOps.callDK (hf:=c1));(with_reducible assumption);(first|(with_reducible assumption)|(refine TB.gs ?_ (by with_reducible assumption);with_reducible assumption)|(refine TB.gi ?_ (by with_reducible assumption);with_reducible assumption)|exact TB.none _);(iterate 3 exact rfl);(repeat (first|exact trivial|refine⟨rfl,?_⟩));(repeat (first|exact .nil|(refine .cons ?_ ?_;(first|exact .eq rfl rfl|exact .nil _|exact .any _))));exact rfl;exact rfl;(repeat (first|exact trivial|refine⟨rfl,?_⟩|refine⟨obIds_set,?_⟩));(repeat (first|exact trivial|refine⟨rfl,?_⟩|refine⟨obIds_set,?_⟩));(intro ch_ hch_);refine j241 ?_;refine thenD_pan ?_)
   exact endsR_pan (by assumption) rfl rfl rfl ⟨_,rfl,rfl⟩ ⟨_,rfl,rfl⟩
  ·refine Le.tupL (LeL.cons (Le.aggL (LeL.cons (Le.nil _) (LeL.cons (Le.pv _) (LeL.cons (Le.nil _) (LeL.cons (Le.pv _) LeL.nil))))) (LeL.cons (Le.pv _) LeL.nil))
 |some mr=>
  obtain⟨m,r⟩:=mr
  have c1:=hmY hm
  have c2:=hval m
  simp only
  cases e:validB (fullR m.atoms) ⟨so,fs,p_,q_⟩ m with
  |false=>
   rw[e] at c2
   rw[if_neg (by simp)]
   obtain⟨ats,stp,sts,lp⟩:=m
   refine AWr.of (Q:=EndsR Tryz.prog [.cell 4 33,.cell 5 36] (.tup [mdl zM,litI 340]) 60 1 2 4 1 4 4) ?_ (endsR_post (T:=errT) (N:=N) (w0:=w0) (fc:=23) (Z1:= #[.slice none 0 0,.int .i64 0,.slice none 0 0,.int .i64 0]) (Z2:= #[.int .i64 340]) (v1:=v1) (v2:=v2) rfl hwt' (hgi_.1.trans hB_) (hgi_.2.trans hw_) (hN0'.trans hN_) hNN_ hbase' hheld' (fun vals w=>by simp [callFunc,Tryz.func23,Tryz.f23]) (by decide) rfl rfl (fun w=>rec_idle v1 v2 w) (fun b1 b2 c1 c2 e1 e2 w u q1_ q2_ hu hb hh1 hc1 hh2 hc2=>by
  subst q1_
  subst q2_
  exact rec_pan b1 b2 c1 c2 e1 e2 w u hu hb hh1 hc1 hh2 hc2) rfl rfl fun δ' h1 h2 h3 h4=>absurd (h1.symm.trans h2) (by simp))
   (refine zq ?_;refine zm ?_;refine j197 ?_;refine AOps.not rfl rfl rfl ?_;refine j115 ?_;refine j188 ?_;refine j328 ?_;refine thenD_ret ?_)
   (apply endsR_ret;(exact Res.two (.cell rfl rfl rfl rfl) (.cell1 rfl rfl rfl rfl));(refine Le.tupL ?_;refine LeL.cons ?_ ?_;refine Le.aggL ?_;refine j182 ?_;refine LeL.cons ?_ ?_;refine Le.litI ?_;(rfl);refine j182 ?_;refine LeL.cons ?_ ?_;refine Le.litI ?_;(rfl);exact LeL.nil;refine LeL.cons ?_ ?_;(with_reducible exact Le.pv _);exact LeL.nil))
  |true=>
   rw[e] at c2
   have c3:=hfm m e
   by_cases hq:fmtT ⟨so,fs,p_,q_⟩ m=t
   ·rw[if_pos ⟨rfl,hq⟩]
    rw[hq] at c3
    obtain⟨ats,stp,sts,lp⟩:=m
    refine AWr.of (Q:=EndsR Tryz.prog [.cell 4 33,.cell 5 36] (.tup [mdl ⟨ats,stp,sts,lp⟩,litI 0]) 60 1 2 4 1 4 4) ?_ (endsR_post (T:=errT) (N:=N) (w0:=w0) (fc:=23) (Z1:= #[.slice none 0 0,.int .i64 0,.slice none 0 0,.int .i64 0]) (Z2:= #[.int .i64 340]) (v1:=v1) (v2:=v2) rfl hwt' (hgi_.1.trans hB_) (hgi_.2.trans hw_) (hN0'.trans hN_) hNN_ hbase' hheld' (fun vals w=>by simp [callFunc,Tryz.func23,Tryz.f23]) (by decide) rfl rfl (fun w=>rec_idle v1 v2 w) (fun b1 b2 c1 c2 e1 e2 w u q1_ q2_ hu hb hh1 hc1 hh2 hc2=>by
  subst q1_
  subst q2_
  exact rec_pan b1 b2 c1 c2 e1 e2 w u hu hb hh1 hc1 hh2 hc2) rfl rfl fun δ' h1 h2 h3 h4=>absurd (h1.symm.trans h2) (by simp))
    (refine zq ?_;refine zm ?_;refine j197 ?_;refine j145 ?_;refine j306 ?_;refine zA (c3) ?_;refine j314 ?_;(focus ((with_reducible apply AW.condD);exact rfl;exact rfl;all_goals intro hc_));refine j220 ?_;refine j188 ?_;refine j328 ?_;refine thenD_ret ?_;(all_goals skip);rotate_left;refine j29 ?_;refine j324 ?_;refine j155 ?_;refine j188 ?_;refine j328 ?_;(all_goals skip);rotate_left)
    ·exact absurd rfl hc_
    (apply endsR_ret;(exact Res.two (.cell rfl rfl rfl rfl) (.cell1 rfl rfl rfl rfl));(refine Le.tupL ?_;refine LeL.cons ?_ ?_;refine Le.aggL ?_;refine LeL.cons ?_ ?_;(with_reducible exact Le.pv _);refine LeL.cons ?_ ?_;(with_reducible exact Le.pv _);refine LeL.cons ?_ ?_;(with_reducible exact Le.pv _);refine LeL.cons ?_ ?_;(with_reducible exact Le.pv _);exact LeL.nil;refine LeL.cons ?_ ?_;(with_reducible exact Le.pv _);exact LeL.nil))
   ·rw[if_neg fun h=>hq h.2]
    have hq':mkS (fmtT ⟨so,fs,p_,q_⟩ m)≠mkS t:=fun h=>hq (mk_inj.1 h)
    generalize mkS (fmtT ⟨so,fs,p_,q_⟩ m)=ft at c3 hq'
    obtain⟨ats,stp,sts,lp⟩:=m
    refine AWr.of (Q:=EndsR Tryz.prog [.cell 4 33,.cell 5 36] (.tup [mdl zM,litI 340]) 60 1 2 4 1 4 4) ?_ (endsR_post (T:=errT) (N:=N) (w0:=w0) (fc:=23) (Z1:= #[.slice none 0 0,.int .i64 0,.slice none 0 0,.int .i64 0]) (Z2:= #[.int .i64 340]) (v1:=v1) (v2:=v2) rfl hwt' (hgi_.1.trans hB_) (hgi_.2.trans hw_) (hN0'.trans hN_) hNN_ hbase' hheld' (fun vals w=>by simp [callFunc,Tryz.func23,Tryz.f23]) (by decide) rfl rfl (fun w=>rec_idle v1 v2 w) (fun b1 b2 c1 c2 e1 e2 w u q1_ q2_ hu hb hh1 hc1 hh2 hc2=>by
  subst q1_
  subst q2_
  exact rec_pan b1 b2 c1 c2 e1 e2 w u hu hb hh1 hc1 hh2 hc2) rfl rfl fun δ' h1 h2 h3 h4=>absurd (h1.symm.trans h2) (by simp))
    (refine zq ?_;refine zm ?_;refine j197 ?_;refine j145 ?_;refine j306 ?_;refine zA (c3) ?_;refine j314 ?_;refine zc ?_;refine j220 ?_;refine j188 ?_;refine j328 ?_;refine thenD_ret ?_)
    (apply endsR_ret;(exact Res.two (.cell rfl rfl rfl rfl) (.cell1 rfl rfl rfl rfl));(refine Le.tupL ?_;refine LeL.cons ?_ ?_;refine Le.aggL ?_;refine j182 ?_;refine LeL.cons ?_ ?_;refine Le.litI ?_;(rfl);refine j182 ?_;refine LeL.cons ?_ ?_;refine Le.litI ?_;(rfl);exact LeL.nil;refine LeL.cons ?_ ?_;(with_reducible exact Le.pv _);exact LeL.nil))
end Go.Ab
/- Chapter 07:the sizes that the reference takes. -/
namespace Go.Ab
open Go Go.Proofs
set_option maxRecDepth 20000
set_option maxHeartbeats 8000000
attribute [local irreducible] AW AOps thenD inBlockD AR iterEnds roundEndsN inlEnds noGotoD
def smR (l:List RelM):Bool:=l.all fun r=>decide (r.2.length≤200)
theorem smR_drop {l:List RelM} {k:Nat} (hk:k<l.length):smR (l.drop k)=(decide (l[k].2.length≤200) && smR (l.drop (k+1))):=by
 rw[List.drop_eq_getElem_cons hk];rfl
def smS (s:List RelM):Bool:=decide (s.length≤10) && smR s
def smSS (l:List (List RelM)):Bool:=l.all smS
theorem smSS_drop {l:List (List RelM)} {k:Nat} (hk:k<l.length):smSS (l.drop k)=(smS l[k] && smSS (l.drop (k+1))):=by
 rw[List.drop_eq_getElem_cons hk];rfl
def smF (l:List FieldM):Bool:=l.all fun f=>decide (f.sorts.length≤10)
theorem smF_drop {l:List FieldM} {k:Nat} (hk:k<l.length):smF (l.drop k)=(decide (l[k].sorts.length≤10) && smF (l.drop (k+1))):=by
 rw[List.drop_eq_getElem_cons hk];rfl
def smallB (s:SpecM) (m:ModM):Bool:=
 decide (s.sorts.length≤10∧s.fields.length≤10∧m.states.length≤64∧m.atoms.length≤10) && (smSS m.states && smF s.fields)
theorem small_fn (s:SpecM) (m:ModM):Fn Tryz.prog 21 [spc s,mdl m] (litB (smallB s m)):=by
 obtain⟨so,fs,p,q⟩:=s
 obtain⟨at',st,ss,lp⟩:=m
 unfold smallB
 simp only
 by_cases h1:so.length≤10∧fs.length≤10∧ss.length≤64∧at'.length≤10
 ·rw[decide_eq_true h1,Bool.true_and]
  obtain⟨h11,h12,h13,h14⟩:=h1
  refine Fn.enter (n:=81) Tryz.func21 rfl rfl rfl rfl rfl (by decide) fun g hro_ hwt_=>?_;(try refine nz ?_)
  (refine j131 ?_;refine j62 ?_;refine j168 ?_;refine j85 ?_;refine AOps.fieldAddrN 27 1 1 rfl rfl rfl rfl ?_;refine j138 ?_;refine j84 ?_;refine j85 ?_;refine j260 ?_;refine j84 ?_;refine j85 ?_;refine AOps.fieldAddrN 33 0 0 rfl rfl rfl rfl ?_;refine zy ?_;refine AOps.fieldAddrN 30 0 0 rfl rfl rfl rfl ?_;refine j138 ?_;refine j84 ?_;refine j299 ?_)
  refine AW.loop (fun(i:Nat)=>{n:=81,env:=[(2,.ptr 0 0),(3,.ptr 1 0),(5,litI i)],objs:=[(0,some (.box [.pv (.slice 2 (so.map encSo)),.pv (.slice 3 (fs.map encF)),slv p,slv q])),(1,some (.box [.pv (ints at'),litI st,.pv (stts ss),litI lp]))],nx:=2}) (fun i=>i≤ss.length∧smSS ss=smSS (ss.drop i)) (fun i=>ss.length - i) 0 ?_ ?_ ?_
  ·exact⟨Nat.zero_le _,rfl⟩
  ·exact j69
  rintro i ⟨hi,he⟩
  by_cases hlt:i<ss.length
  ·rw[smSS_drop hlt] at he
   by_cases h2:ss[i].length≤10
   ·have es:smS ss[i]=smR ss[i]:=by unfold smS;rw[decide_eq_true h2,Bool.true_and]
    rw[es] at he
    (refine j175 ?_;refine j130 ?_;refine j327 ?_;(focus ((with_reducible apply AOps.index_map);(iterate 7 exact rfl);rotate_left;omega));refine zr ?_;refine j168 ?_;refine j166 ?_;refine j2 ?_;refine j92 ?_)
    refine AW.loop (fun(k:Nat)=>{n:=81,env:=[(2,.ptr 0 0),(3,.ptr 1 0),(5,litI i),(6,litI k)],objs:=[(0,some (.box [.pv (.slice 2 (so.map encSo)),.pv (.slice 3 (fs.map encF)),slv p,slv q])),(1,some (.box [.pv (ints at'),litI st,.pv (stts ss),litI lp]))],nx:=2}) (fun k=>k≤ss[i].length∧smR ss[i]=smR (ss[i].drop k)) (fun k=>ss[i].length - k) 0 ?_ ?_ ?_
    ·exact⟨Nat.zero_le _,rfl⟩
    ·exact j69
    rintro k ⟨hk,hre⟩
    by_cases hlt2:k<ss[i].length
    ·rw[smR_drop hlt2] at hre
     by_cases h3:ss[i][k].2.length≤200
     ·rw[decide_eq_true h3,Bool.true_and] at hre
      (refine j26 ?_;refine j327 ?_;(focus ((with_reducible apply AOps.index_map);(iterate 7 exact rfl);rotate_left;omega));refine zr ?_;refine j39 ?_;refine j2 ?_;refine j327 ?_;(focus ((with_reducible apply AOps.index_map);(iterate 7 exact rfl);rotate_left;omega));refine zr ?_;refine zm ?_;(focus ((with_reducible apply AOps.index_map);(iterate 7 exact rfl);rotate_left;omega));refine AOps.fieldAddr_rN 54 1 1 1 rfl rfl rfl rfl ?_;refine nz ?_;refine zr ?_;refine j168 ?_;refine j316 ?_)
      exact⟨k+1,⟨by omega,hre⟩,by omega,weak rfl (by(first|(refine⟨.eq rfl rfl,?_⟩;(iterate 3 refine⟨.eq rfl rfl,?_⟩);exact trivial)|(refine⟨.eq rfl rfl,?_⟩;(iterate 2 refine⟨.eq rfl rfl,?_⟩);exact trivial)|(refine⟨.eq rfl rfl,?_⟩;refine⟨.eq rfl rfl,?_⟩;exact trivial))) (by(first|(refine⟨.box _ rfl ?_,?_⟩;(iterate 4 refine⟨.eq rfl rfl,?_⟩);exact trivial;refine⟨.box _ rfl ?_,?_⟩;(iterate 4 refine⟨.eq rfl rfl,?_⟩);(iterate 2 exact trivial))|(refine⟨.box _ rfl ?_,?_⟩;(iterate 4 refine⟨.eq rfl rfl,?_⟩);(iterate 2 exact trivial)))) rfl⟩
     ·rw[decide_eq_false h3,Bool.false_and] at hre
      rw[hre,Bool.false_and] at he
      (refine j26 ?_;refine j327 ?_;(focus ((with_reducible apply AOps.index_map);(iterate 7 exact rfl);rotate_left;omega));refine zr ?_;refine j39 ?_;refine j2 ?_;refine j327 ?_;(focus ((with_reducible apply AOps.index_map);(iterate 7 exact rfl);rotate_left;omega));refine zr ?_;refine zm ?_;(focus ((with_reducible apply AOps.index_map);(iterate 7 exact rfl);rotate_left;omega));refine AOps.fieldAddr_rN 54 1 1 1 rfl rfl rfl rfl ?_;refine nz ?_;refine zr ?_;refine j168 ?_;refine j340 ?_;refine j2 ?_;refine j11 ?_;refine j35 ?_)
      (apply ends_ret;(exact Res.one (.tmp rfl rfl));(refine Le.litB ?_;(rw[he];rfl)))
    ·rw[List.drop_eq_nil_of_le (by omega)] at hre
     have hre:smR ss[i]=true:=hre
     rw[hre,Bool.true_and] at he
     (refine j26 ?_;refine j327 ?_;(focus ((with_reducible apply AOps.index_map);(iterate 7 exact rfl);rotate_left;omega));refine zr ?_;refine zn ?_;refine j139 ?_;refine j4 ?_;refine j48 ?_)
     exact⟨i+1,⟨by omega,he⟩,by omega,weak rfl (by(first|(refine⟨.eq rfl rfl,?_⟩;(iterate 3 refine⟨.eq rfl rfl,?_⟩);exact trivial)|(refine⟨.eq rfl rfl,?_⟩;(iterate 2 refine⟨.eq rfl rfl,?_⟩);exact trivial)|(refine⟨.eq rfl rfl,?_⟩;refine⟨.eq rfl rfl,?_⟩;exact trivial))) (by(first|(refine⟨.box _ rfl ?_,?_⟩;(iterate 4 refine⟨.eq rfl rfl,?_⟩);exact trivial;refine⟨.box _ rfl ?_,?_⟩;(iterate 4 refine⟨.eq rfl rfl,?_⟩);(iterate 2 exact trivial))|(refine⟨.box _ rfl ?_,?_⟩;(iterate 4 refine⟨.eq rfl rfl,?_⟩);(iterate 2 exact trivial)))) rfl⟩
   ·have es:smS ss[i]=false:=by unfold smS;rw[decide_eq_false h2,Bool.false_and]
    rw[es,Bool.false_and] at he
    (refine j175 ?_;refine j130 ?_;refine j327 ?_;(focus ((with_reducible apply AOps.index_map);(iterate 7 exact rfl);rotate_left;omega));refine zr ?_;refine j168 ?_;refine j268 ?_;refine j10 ?_)
    (apply ends_ret;(exact Res.one (.tmp rfl rfl));(refine Le.litB ?_;(rw[he];rfl)))
  ·rw[List.drop_eq_nil_of_le (by omega)] at he
   have he:smSS ss=true:=he
   rw[he,Bool.true_and]
   (refine j26 ?_;refine j22 ?_;refine zn ?_;refine j218 ?_;refine j92 ?_)
   refine AW.loop (fun(i:Nat)=>{n:=81,env:=[(2,.ptr 0 0),(7,litI i)],objs:=[(0,some (.box [.pv (.slice 2 (so.map encSo)),.pv (.slice 3 (fs.map encF)),slv p,slv q]))],nx:=2}) (fun i=>i≤fs.length∧smF fs=smF (fs.drop i)) (fun i=>fs.length - i) 0 ?_ ?_ ?_
   ·exact⟨Nat.zero_le _,rfl⟩
   ·exact j69
   rintro j ⟨hj,hfe⟩
   by_cases hlt3:j<fs.length
   ·rw[smF_drop hlt3] at hfe
    by_cases h4:fs[j].sorts.length≤10
    ·rw[decide_eq_true h4,Bool.true_and] at hfe
     (refine j275 ?_;refine zm ?_;(focus ((with_reducible apply AOps.index_map);(iterate 7 exact rfl);rotate_left;omega));refine j178 ?_;refine j168 ?_;refine j316 ?_)
     exact⟨j+1,⟨by omega,hfe⟩,by omega,weak rfl (by(first|(refine⟨.eq rfl rfl,?_⟩;(iterate 3 refine⟨.eq rfl rfl,?_⟩);exact trivial)|(refine⟨.eq rfl rfl,?_⟩;(iterate 2 refine⟨.eq rfl rfl,?_⟩);exact trivial)|(refine⟨.eq rfl rfl,?_⟩;refine⟨.eq rfl rfl,?_⟩;exact trivial))) (by(first|(refine⟨.box _ rfl ?_,?_⟩;(iterate 4 refine⟨.eq rfl rfl,?_⟩);exact trivial;refine⟨.box _ rfl ?_,?_⟩;(iterate 4 refine⟨.eq rfl rfl,?_⟩);(iterate 2 exact trivial))|(refine⟨.box _ rfl ?_,?_⟩;(iterate 4 refine⟨.eq rfl rfl,?_⟩);(iterate 2 exact trivial)))) rfl⟩
    ·rw[decide_eq_false h4,Bool.false_and] at hfe
     (refine j275 ?_;refine zm ?_;(focus ((with_reducible apply AOps.index_map);(iterate 7 exact rfl);rotate_left;omega));refine j178 ?_;refine j168 ?_;refine j185 ?_)
     (apply ends_ret;(exact Res.one (.tmp rfl rfl));(refine Le.litB ?_;(exact hfe.symm)))
   ·rw[List.drop_eq_nil_of_le (by omega)] at hfe
    (refine j238 ?_;refine j337 ?_)
    (apply ends_ret;(exact Res.one (.tmp rfl rfl));(refine Le.litB ?_;(exact hfe.symm)))
 ·rw[decide_eq_false h1,Bool.false_and]
  refine Fn.enter (n:=81) Tryz.func21 rfl rfl rfl rfl rfl (by decide) fun g hro_ hwt_=>?_;(try refine nz ?_)
  (refine j131 ?_;refine j62 ?_;refine j168 ?_;refine zm ?_;(focus ((with_reducible apply AOps.guardF);(iterate 6 exact rfl);all_goals intro hc_));refine AOps.fieldAddrN 27 1 1 rfl rfl rfl rfl ?_;refine j138 ?_;refine j84 ?_;refine zm ?_;(focus ((with_reducible apply AOps.guardF);(iterate 6 exact rfl);all_goals intro hc_));refine j260 ?_;refine j84 ?_;refine zm ?_;(focus ((with_reducible apply AOps.guardF);(iterate 6 exact rfl);all_goals intro hc_));refine AOps.fieldAddrN 33 0 0 rfl rfl rfl rfl ?_;refine zy ?_;refine AOps.fieldAddrN 30 0 0 rfl rfl rfl rfl ?_;refine j138 ?_;refine j84 ?_;refine j268 ?_;(all_goals skip);rotate_left;refine j176 ?_;refine j148 ?_;(all_goals skip);rotate_left;refine j110 ?_;refine j315 ?_;refine j290 ?_;refine j55 ?_;(all_goals skip);rotate_left;refine j110 ?_;refine j315 ?_;refine j134 ?_;refine j129 ?_;refine j290 ?_;refine j55 ?_;(all_goals skip);rotate_left)
  all_goals (apply ends_ret;(exact Res.one (.tmp rfl rfl));(refine Le.litB ?_;(rfl)))
end Go.Ab
