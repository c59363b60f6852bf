/- Chapter 34's reference: the text of a valid model, walked. -/
import Derived.Test.YtijkecidjjicbaaGreatDoorAqQD
import Derived.Test.YtijkecidjjicbaaGreatDoorAbZ
import Derived.Test.YtijkecidjjicbaaGreatDoorAbL3
set_option linter.unusedSimpArgs false
set_option linter.unusedVariables false
namespace Go.Ab
open Go Go.Proofs
open Nat (reduceAdd reduceSub)
set_option maxRecDepth 20000
set_option maxHeartbeats 4000000
structure RelQ (n:Int) (r:RelM):Prop where
 ar:∃k:Nat,r.1=k∧1≤k∧k≤3
 tu:∀t∈r.2,(0≤t∧t<n ^ r.1.toNat)∧t≤1000000
 len:r.2.length≤1000000
theorem atomsT_c (q:SortM) (so:List SortM) (a:Int) (at':List Int):atomsT (q::so) (a::at')=[32]++(sL q.1++([61]++(digT a++atomsT so at'))):=rfl
theorem atomsT_0 (at':List Int):atomsT [] at'=[]:=by cases at'<;>rfl
theorem linesT_c (so:List SortM) (at':List Int) (f:FieldM) (fs:List FieldM) (r:RelM) (rs:List RelM):linesT so at' (f::fs) (r::rs)=lineT so at' f r++linesT so at' fs rs:=rfl
theorem linesT_0 (so:List SortM) (at':List Int) (rs:List RelM):linesT so at' [] rs=[]:=by cases rs<;>rfl
theorem statesT_c (so:List SortM) (at':List Int) (fs:List FieldM) (i:Int) (st:List RelM) (l:List (List RelM)):statesT so at' fs i (st::l)=[115,116,97,116,101,32]++(digT i++([10]++(linesT so at' fs st++statesT so at' fs (i+1) l))):=by
 show stateT so at' fs i st++_=_
 unfold stateT
 simp only[List.append_assoc]
theorem pre_len {l R F:Bt} (h:l++R=F):l.length≤F.length:=by
 rw[← h,List.length_append];omega
theorem pow_le3 {n:Int} (h0:0≤n) (h:n≤12) {k:Nat} (hk:k≤3):n ^ k≤1728:=by
 obtain⟨m,rfl⟩:∃m:Nat,n=m:=⟨n.toNat,by omega⟩
 have h6:=Nat.pow_le_pow_left (show m≤12 by omega) k
 have h7:12 ^ k≤1728:=by
  rcases(by omega:k=0∨k=1∨k=2∨k=3) with h|h|h|h<;>rw[h]<;>decide
 have h8:((m:Int) ^ k)=((m ^ k:Nat):Int):=by simp
 omega
theorem relQ_of {n:Int} {r:RelM} (h:relOk n r=true):RelQ n r:=by
 have hl:=relOk_len h
 unfold relOk at h
 rw[Bool.and_eq_true,decide_eq_true_eq] at h
 obtain⟨⟨h1,h2,h3,h4⟩,h5⟩:=h
 obtain⟨_,h6⟩:=incrB_inc h5
 refine⟨⟨r.1.toNat,by omega,by omega,by omega⟩,fun t ht=>?_,by omega⟩
 have:=h6 t ht
 have:=pow_le3 h1 h2 (show r.1.toNat≤3 by omega)
 exact⟨⟨by omega,by omega⟩,by omega⟩
structure FmtQ (s:SpecM) (m:ModM):Prop where
 sl:s.sorts.length=m.atoms.length
 h5:Ok5 m.atoms
 sz:∀q∈s.sorts,q.1.size≤16
 fz:∀f∈s.fields,f.name.size≤16
 fs:s.fields.length≤10
 st:1≤m.steps∧m.steps≤4
 lp:0≤m.loop∧m.loop<4
 ss:m.states.length≤4
 sf:∀x∈m.states,x.length=s.fields.length
 rq:∀x∈m.states,∀r∈x,RelQ m.atoms.sum r
 len:(fmtT s m).length≤400000
theorem fmt_q {s:SpecM} {m:ModM} (hp:SpP s) (hv:validB (fullR m.atoms) s m=true):FmtQ s m:=by
 obtain⟨q1,q2,q3,q4⟩:=valid_spec hv
 have h5:=scope5 q1
 obtain⟨k1,k2,k3,k4,k5,k6,k7⟩:=scopeOk_spec q1
 refine⟨k2.symm,h5,fun q hq=>(hp.nm q hq).1,fun f hf=>(hp.fz f hf).1,hp.fs,⟨k3,k4⟩,by omega,by omega,fun st hst=>(valid_rel hv hst).1,fun st hst r hr=>?_,fmt_le hp hv⟩
 obtain⟨hl,hrr⟩:=valid_rel hv hst
 obtain⟨j,hj,rfl⟩:=List.getElem_of_mem hr
 exact relQ_of (hrr j (by omega) hj).2.2.1
attribute [local irreducible] AW AOps thenD inBlockD AR iterEnds roundEndsN inlEnds noGotoD EndsX EndsP byteAt mkS restT atomsT linesT statesT lineT
theorem line34_fn (s:SpecM) (at':List Int) (st:Int) (k:Nat) (hk:k<s.fields.length) (r:RelM) (h5:Ok5 at') (hl:s.sorts.length=at'.length) (hr:RelQ at'.sum r) (hz:∀q∈s.sorts,q.1.size≤16) (hfz:∀f∈s.fields,f.name.size≤16) (hL:(lineT s.sorts at' s.fields[k] r).length≤400000):Fn Tryz.prog 44 [spc s,scp at' st,litI (k:Nat),relA r] (litS (mkS (lineT s.sorts at' s.fields[k] r))):=by
 obtain⟨⟨ar,ha,ha1,ha3⟩,htu,hln⟩:=hr
 have htp:=fun t (ht:t∈r.2)=>tuple34_fn s at' st t ar h5 hl ⟨ha1,ha3⟩ (by have:=(htu t ht).1;rw[ha] at this;exact this) (htu t ht).2 hz
 obtain⟨so,fs,p_,q_⟩:=s
 obtain⟨r1,ts⟩:=r
 simp only at hk hl hz hfz ha htu hln htp hL ⊢
 subst ha
 have hzk:=hfz _ (List.getElem_mem hk)
 obtain⟨F,hF⟩:∃F,F=lineT so at' fs[k] ((ar:Int),ts):=⟨_,rfl⟩
 rw[← hF] at hL ⊢
 have hF0:(sL fs[k].name++ [32,61,32,123])++(restT so at' (ar:Int) ts 0++ [125,10])=F:=by
  rw[hF]
  unfold lineT restT
  rw[if_pos rfl,List.append_assoc]
 have e1:fs[k].name++⟨#[32,61,32,123]⟩=mkS (sL fs[k].name++ [32,61,32,123]):=by(apply mk_of;first|(simp only[sL_app,sL_mk,List.append_assoc];done)|(simp only[sL_app,sL_mk,List.append_assoc];rfl)|(simp;done))
 have z4:(ByteArray.mk #[32,61,32,123]).size=4:=rfl
 have z2:(ByteArray.mk #[44,32]).size=2:=rfl
 have z3:(ByteArray.mk #[125,10]).size=2:=rfl
 refine Fn.enter (n:=43) Tryz.func44 rfl rfl rfl rfl rfl (by decide) fun g hro_ hwt_=>?_;(try refine nz ?_)
 (refine zq ?_;refine j5 ?_;refine j40 ?_;refine j58 ?_;refine j47 ?_;refine zm ?_;(focus ((with_reducible apply AOps.index_map);(iterate 7 exact rfl);rotate_left;omega));refine AOps.fieldAddr_rN 52 0 0 1 rfl rfl rfl rfl ?_;refine nz ?_;refine zr ?_;(with_reducible apply AOps.catS);(iterate 5 exact rfl);(first|omega|decide|(simp only[ByteArray.size_append];omega));refine j311 ?_)
 (refine nz ?_;apply AW.loopR [8,7,5,4] [2,1,0] (fun p:Nat×Bt=>([(9,litS (mkS p.2)),(10,litI p.1)]:List (Nat×AV))) (fun p:Nat×Bt=>([]:List (Nat×Option Ob))) (fun p:Nat×Bt=>p.1≤ts.length∧p.2++(restT so at' (ar:Int) ts p.1++ [125,10])=F) (fun p:Nat×Bt=>ts.length - p.1) (((0:Nat),sL fs[k].name++ [32,61,32,123]));(conv=>lhs;simp only[Nf.lpR,Nf.all,Nat.reduceBEq,reduceAdd,reduceSub]);(all_goals skip))
 ·exact⟨Nat.zero_le _,hF0⟩
 ·exact weak rfl (by(refine⟨.strE (by first|rfl|(rw[e1])),?_⟩;refine⟨.intE (by first|rfl|(rw[e1])),?_⟩;refine⟨.strE (by first|rfl|(rw[e1])),?_⟩;(iterate 3 refine⟨.eq rfl rfl,?_⟩);exact trivial)) (by(refine⟨.box _ rfl ?_,?_⟩;refine⟨.intE (by first|rfl|(rw[e1])),?_⟩;refine⟨.pvE (by first|rfl|(rw[e1])),?_⟩;exact trivial;refine⟨.box _ rfl ?_,?_⟩;refine⟨.pvE (by first|rfl|(rw[e1])),?_⟩;refine⟨.intE (by first|rfl|(rw[e1])),?_⟩;exact trivial;refine⟨.box _ rfl ?_,?_⟩;refine⟨.pvE (by first|rfl|(rw[e1])),?_⟩;refine⟨.pvE (by first|rfl|(rw[e1])),?_⟩;(iterate 2 refine⟨.eq rfl rfl,?_⟩);(iterate 2 exact trivial))) rfl
 rintro⟨j,l⟩ ⟨hj,hinv⟩
 simp only at hj hinv ⊢
 have hll:=pre_len hinv
 have hzl:=mk_size l
 by_cases hlt:j<ts.length
 ·have ht:=htp _ (List.getElem_mem hlt)
  have hzt:=mk_size (tupT so at' (ar:Int) ts[j])
  rcases Nat.eq_zero_or_pos j with h0|h0
  ·subst h0
   rw[restT_0 hlt,List.append_assoc,← List.append_assoc] at hinv
   have hll2:=pre_len hinv
   rw[List.length_append] at hll2
   have er:mkS l++mkS (tupT so at' (ar:Int) ts[0])=mkS (l++tupT so at' (ar:Int) ts[0]):=by(apply mk_of;first|(simp only[sL_app,sL_mk,List.append_assoc];done)|(simp only[sL_app,sL_mk,List.append_assoc];rfl)|(simp;done))
   generalize tupT so at' (ar:Int) ts[0]=tt at ht hzt hinv hll2 er
   (refine j26 ?_;refine j83 ?_;refine j39 ?_;refine j63 ?_;refine zd ?_;refine j133 ?_;(with_reducible apply AW.regionQ);exact rfl;exact rfl;kernel_rfl;(with_reducible assumption);refine zm ?_;refine j137 ?_;refine j89 ?_;refine j83 ?_;refine zm ?_;(focus ((with_reducible apply AOps.index_map);(iterate 7 exact rfl);rotate_left;omega));refine zr ?_;refine zA (ht) ?_;(with_reducible apply AOps.catS);(iterate 5 exact rfl);(first|omega|decide|(simp only[ByteArray.size_append];omega));refine j158 ?_)
   exact⟨(1,l++tt),⟨by omega,hinv⟩,(by show ts.length - 1<ts.length - 0;omega),weak rfl (by(refine⟨.strE (by first|rfl|(rw[er])),?_⟩;refine⟨.intE (by first|rfl|(rw[er])),?_⟩;refine⟨.strE (by first|rfl|(rw[er])),?_⟩;(iterate 3 refine⟨.eq rfl rfl,?_⟩);exact trivial)) (by(refine⟨.box _ rfl ?_,?_⟩;refine⟨.intE (by first|rfl|(rw[er])),?_⟩;refine⟨.pvE (by first|rfl|(rw[er])),?_⟩;exact trivial;refine⟨.box _ rfl ?_,?_⟩;refine⟨.pvE (by first|rfl|(rw[er])),?_⟩;refine⟨.intE (by first|rfl|(rw[er])),?_⟩;exact trivial;refine⟨.box _ rfl ?_,?_⟩;refine⟨.pvE (by first|rfl|(rw[er])),?_⟩;refine⟨.pvE (by first|rfl|(rw[er])),?_⟩;(iterate 2 refine⟨.eq rfl rfl,?_⟩);(iterate 2 exact trivial))) rfl⟩
  ·rw[restT_s h0 hlt,List.append_assoc,List.append_assoc,← List.append_assoc,← List.append_assoc] at hinv
   have hll2:=pre_len hinv
   rw[List.length_append,List.length_append] at hll2
   have er:mkS l++⟨#[44,32]⟩++mkS (tupT so at' (ar:Int) ts[j])=mkS (l++ [44,32]++tupT so at' (ar:Int) ts[j]):=by(apply mk_of;first|(simp only[sL_app,sL_mk,List.append_assoc];done)|(simp only[sL_app,sL_mk,List.append_assoc];rfl)|(simp;done))
   generalize tupT so at' (ar:Int) ts[j]=tt at ht hzt hinv hll2 er
   (refine j26 ?_;refine j83 ?_;refine j39 ?_;refine j63 ?_;refine j340 ?_;refine j372 ?_;(with_reducible apply AOps.catS);(iterate 5 exact rfl);(first|omega|decide|(simp only[ByteArray.size_append];omega));refine j3 ?_;(with_reducible apply AW.regionQ);exact rfl;exact rfl;kernel_rfl;(with_reducible assumption);refine zm ?_;refine j137 ?_;refine j89 ?_;refine j83 ?_;refine zm ?_;(focus ((with_reducible apply AOps.index_map);(iterate 7 exact rfl);rotate_left;omega));refine zr ?_;refine zA (ht) ?_;(with_reducible apply AOps.catS);(iterate 5 exact rfl);(first|omega|decide|(simp only[ByteArray.size_append];omega));refine j158 ?_)
   exact⟨(j+1,l++ [44,32]++tt),⟨by omega,hinv⟩,(by show ts.length - (j+1)<ts.length - j;omega),weak rfl (by(refine⟨.strE (by first|rfl|(rw[er])),?_⟩;refine⟨.intE (by first|rfl|(rw[er])),?_⟩;refine⟨.strE (by first|rfl|(rw[er])),?_⟩;(iterate 3 refine⟨.eq rfl rfl,?_⟩);exact trivial)) (by(refine⟨.box _ rfl ?_,?_⟩;refine⟨.intE (by first|rfl|(rw[er])),?_⟩;refine⟨.pvE (by first|rfl|(rw[er])),?_⟩;exact trivial;refine⟨.box _ rfl ?_,?_⟩;refine⟨.pvE (by first|rfl|(rw[er])),?_⟩;refine⟨.intE (by first|rfl|(rw[er])),?_⟩;exact trivial;refine⟨.box _ rfl ?_,?_⟩;refine⟨.pvE (by first|rfl|(rw[er])),?_⟩;refine⟨.pvE (by first|rfl|(rw[er])),?_⟩;(iterate 2 refine⟨.eq rfl rfl,?_⟩);(iterate 2 exact trivial))) rfl⟩
 ·obtain rfl:j=ts.length:=by omega
  rw[restT_e,List.nil_append] at hinv
  have er:mkS F=mkS l++⟨#[125,10]⟩:=by
   rw[← hinv]
   symm
   (apply mk_of;first|(simp only[sL_app,sL_mk,List.append_assoc];done)|(simp only[sL_app,sL_mk,List.append_assoc];rfl)|(simp;done))
  rw[er]
  (refine j26 ?_;refine j83 ?_;refine j156 ?_;refine zm ?_;(with_reducible apply AOps.catS);(iterate 5 exact rfl);(first|omega|decide|(simp only[ByteArray.size_append];omega));refine j11 ?_)
  (apply ends_ret;(exact Res.one (.tmp rfl rfl));(exact Le.pv _))
theorem headF34_fn (s:SpecM) (m:ModM) (h:FmtQ s m):Fn Tryz.prog 43 [spc s,mdl m] (litS (mkS (headT s.sorts m))):=by
 obtain⟨hsl,h5,hsz,hfz,hfs,hst,hlp,hss,hsf,hrq,hlen⟩:=h
 have hds:=digits34_fn m.steps (by omega)
 have hdl:=digits34_fn m.loop (by omega)
 have hlh:(headT s.sorts m).length≤400000:=by
  unfold fmtT at hlen
  rw[List.length_append] at hlen
  omega
 obtain⟨F,hF⟩:∃F,F=headT s.sorts m:=⟨_,rfl⟩
 rw[← hF] at hlh ⊢
 unfold headT at hF
 obtain⟨so,fs,p_,q_⟩:=s
 obtain⟨at',stp,ss,lp⟩:=m
 simp only at*
 have z1:=mk_size (digT stp)
 have z2:=mk_size (digT lp)
 have y1:=digT_le (z:=stp) (by omega)
 have y2:=digT_le (z:=lp) (by omega)
 generalize digT stp=d1 at hds hF z1 y1
 generalize digT lp=d2 at hdl hF z2 y2
 have x1:(ByteArray.mk #[32]).size=1:=rfl
 have x2:(ByteArray.mk #[61]).size=1:=rfl
 have x3:(ByteArray.mk #[32,115,116,101,112,115,61]).size=7:=rfl
 have x4:(ByteArray.mk #[32,108,111,111,112,61]).size=6:=rfl
 have x5:(ByteArray.mk #[10]).size=1:=rfl
 have e0:(⟨#[115,99,111,112,101]⟩:ByteArray)=mkS [115,99,111,112,101]:=by unfold mkS;rfl
 have hsl4:=h5.len
 refine Fn.enter (n:=45) Tryz.func43 rfl rfl rfl rfl rfl (by decide) fun g hro_ hwt_=>?_;(try refine nz ?_)
 (refine j187 ?_;refine j311 ?_)
 (refine nz ?_;apply AW.loopR [4,3,2] [1,0] (fun p:Nat×Bt=>([(5,litS (mkS p.2)),(6,litI p.1)]:List (Nat×AV))) (fun p:Nat×Bt=>([]:List (Nat×Option Ob))) (fun p:Nat×Bt=>p.1≤so.length∧p.2++(atomsT (so.drop p.1) (at'.drop p.1)++([32,115,116,101,112,115,61]++(d1++([32,108,111,111,112,61]++(d2++ [10])))))=F) (fun p:Nat×Bt=>so.length - p.1) (((0:Nat),[115,99,111,112,101]));(conv=>lhs;simp only[Nf.lpR,Nf.all,Nat.reduceBEq,reduceAdd,reduceSub]);(all_goals skip))
 ·exact⟨Nat.zero_le _,by rw[hF];rfl⟩
 ·exact weak rfl (by(refine⟨.strE (by first|rfl|(rw[e0])),?_⟩;refine⟨.intE (by first|rfl|(rw[e0])),?_⟩;refine⟨.strE (by first|rfl|(rw[e0])),?_⟩;(iterate 2 refine⟨.eq rfl rfl,?_⟩);exact trivial)) (by(refine⟨.box _ rfl ?_,?_⟩;refine⟨.pvE (by first|rfl|(rw[e0])),?_⟩;refine⟨.intE (by first|rfl|(rw[e0])),?_⟩;refine⟨.pvE (by first|rfl|(rw[e0])),?_⟩;refine⟨.intE (by first|rfl|(rw[e0])),?_⟩;exact trivial;refine⟨.box _ rfl ?_,?_⟩;refine⟨.pvE (by first|rfl|(rw[e0])),?_⟩;refine⟨.pvE (by first|rfl|(rw[e0])),?_⟩;(iterate 2 refine⟨.eq rfl rfl,?_⟩);(iterate 2 exact trivial))) rfl
 rintro⟨j,l⟩ ⟨hj,hinv⟩
 simp only at hj hinv ⊢
 have hll:=pre_len hinv
 have hzl:=mk_size l
 by_cases hlt:j<so.length
 ·have hlt':j<at'.length:=by omega
  have hb:=h5.each _ (List.getElem_mem hlt')
  have hzj:=hsz _ (List.getElem_mem hlt)
  have hd:=digits34_fn at'[j] (by omega)
  have y3:=digT_le (z:=at'[j]) (by omega)
  have z3:=mk_size (digT at'[j])
  rw[List.drop_eq_getElem_cons hlt,List.drop_eq_getElem_cons hlt',atomsT_c] at hinv
  generalize digT at'[j]=dd at hd y3 z3 hinv
  have er:mkS l++⟨#[32]⟩++so[j].1++⟨#[61]⟩++mkS dd=mkS (l++([32]++(sL so[j].1++([61]++dd)))):=by(apply mk_of;first|(simp only[sL_app,sL_mk,List.append_assoc];done)|(simp only[sL_app,sL_mk,List.append_assoc];rfl)|(simp;done))
  (refine j26 ?_;refine j62 ?_;refine j39 ?_;(with_reducible apply AW.regionQ);exact rfl;exact rfl;kernel_rfl;(with_reducible assumption);refine zm ?_;(with_reducible apply AOps.catS);(iterate 5 exact rfl);(first|omega|decide|(simp only[ByteArray.size_append];omega));refine j62 ?_;refine zm ?_;(focus ((with_reducible apply AOps.index_map);(iterate 7 exact rfl);rotate_left;omega));refine j128 ?_;(with_reducible apply AOps.catS);(iterate 5 exact rfl);(first|omega|decide|(simp only[ByteArray.size_append];omega));(with_reducible apply AOps.catS);(iterate 5 exact rfl);(first|omega|decide|(simp only[ByteArray.size_append];omega));refine j112 ?_;refine zm ?_;(focus ((with_reducible apply AOps.index_map);(iterate 7 exact rfl);rotate_left;omega));refine zr ?_;refine zA (hd) ?_;(with_reducible apply AOps.catS);(iterate 5 exact rfl);(first|omega|decide|(simp only[ByteArray.size_append];omega));refine j158 ?_)
  exact⟨(j+1,l++([32]++(sL so[j].1++([61]++dd)))),⟨by omega,by rw[← hinv];simp only[List.append_assoc]⟩,(by show so.length - (j+1)<so.length - j;omega),weak rfl (by(refine⟨.strE (by first|rfl|(rw[er])),?_⟩;refine⟨.intE (by first|rfl|(rw[er])),?_⟩;refine⟨.strE (by first|rfl|(rw[er])),?_⟩;(iterate 2 refine⟨.eq rfl rfl,?_⟩);exact trivial)) (by(refine⟨.box _ rfl ?_,?_⟩;refine⟨.pvE (by first|rfl|(rw[er])),?_⟩;refine⟨.intE (by first|rfl|(rw[er])),?_⟩;refine⟨.pvE (by first|rfl|(rw[er])),?_⟩;refine⟨.intE (by first|rfl|(rw[er])),?_⟩;exact trivial;refine⟨.box _ rfl ?_,?_⟩;refine⟨.pvE (by first|rfl|(rw[er])),?_⟩;refine⟨.pvE (by first|rfl|(rw[er])),?_⟩;(iterate 2 refine⟨.eq rfl rfl,?_⟩);(iterate 2 exact trivial))) rfl⟩
 ·obtain rfl:j=so.length:=by omega
  rw[List.drop_length,atomsT_0,List.nil_append] at hinv
  have er:mkS F=mkS l++⟨#[32,115,116,101,112,115,61]⟩++mkS d1++⟨#[32,108,111,111,112,61]⟩++mkS d2++⟨#[10]⟩:=by
   rw[← hinv]
   symm
   (apply mk_of;first|(simp only[sL_app,sL_mk,List.append_assoc];done)|(simp only[sL_app,sL_mk,List.append_assoc];rfl)|(simp;done))
  rw[er]
  (refine j26 ?_;refine j62 ?_;refine zn ?_;refine j139 ?_;refine j4 ?_;refine thenD_n ?_;refine zo ?_;(with_reducible apply AW.regionQ);exact rfl;exact rfl;kernel_rfl;(with_reducible assumption);refine zm ?_;(with_reducible apply AOps.catS);(iterate 5 exact rfl);(first|omega|decide|(simp only[ByteArray.size_append];omega));refine j64 ?_;refine zb ?_;refine zA (hds) ?_;(with_reducible apply AOps.catS);(iterate 5 exact rfl);(first|omega|decide|(simp only[ByteArray.size_append];omega));(with_reducible apply AOps.catS);(iterate 5 exact rfl);(first|omega|decide|(simp only[ByteArray.size_append];omega));refine AOps.fieldAddrN 33 2 3 rfl rfl rfl rfl ?_;refine zb ?_;refine zA (hdl) ?_;(with_reducible apply AOps.catS);(iterate 5 exact rfl);(first|omega|decide|(simp only[ByteArray.size_append];omega));(with_reducible apply AOps.catS);(iterate 5 exact rfl);(first|omega|decide|(simp only[ByteArray.size_append];omega));refine j11 ?_)
  (apply ends_ret;(exact Res.one (.tmp rfl rfl));(exact Le.pv _))
theorem format34_fn (s:SpecM) (m:ModM) (h:FmtQ s m):Fn Tryz.prog 14 [spc s,mdl m] (litS (mkS (fmtT s m))):=by
 have hhd:=headF34_fn s m h
 obtain⟨hsl,h5,hsz,hfz,hfs,hst,hlp,hss,hsf,hrq,hlen⟩:=h
 have hlin:=fun k (hk:k<s.fields.length) r (hr:RelQ m.atoms.sum r) hL=>line34_fn s m.atoms m.steps k hk r h5 hsl hr hsz hfz hL
 obtain⟨F,hF⟩:∃F,F=fmtT s m:=⟨_,rfl⟩
 rw[← hF] at hlen ⊢
 unfold fmtT at hF
 obtain⟨so,fs,p_,q_⟩:=s
 obtain⟨at',stp,ss,lp⟩:=m
 simp only at*
 have zh:=mk_size (headT so ⟨at',stp,ss,lp⟩)
 generalize headT so ⟨at',stp,ss,lp⟩=hd0 at hhd hF zh
 have x1:(ByteArray.mk #[115,116,97,116,101,32]).size=6:=rfl
 have x5:(ByteArray.mk #[10]).size=1:=rfl
 refine Fn.enter (n:=47) Tryz.func14 rfl rfl rfl rfl rfl (by decide) fun g hro_ hwt_=>?_;(try refine nz ?_)
 (refine j187 ?_;refine j137 ?_;refine zA (hhd) ?_;refine j311 ?_)
 (refine nz ?_;apply AW.loopR [4,3,2] [1,0] (fun p:Nat×Bt=>([(5,litS (mkS p.2)),(6,litI p.1)]:List (Nat×AV))) (fun p:Nat×Bt=>([]:List (Nat×Option Ob))) (fun p:Nat×Bt=>p.1≤ss.length∧p.2++statesT so at' fs (p.1:Int) (ss.drop p.1)=F) (fun p:Nat×Bt=>ss.length - p.1) (((0:Nat),hd0));(conv=>lhs;simp only[Nf.lpR,Nf.all,Nat.reduceBEq,reduceAdd,reduceSub]);(all_goals skip))
 ·exact⟨Nat.zero_le _,by rw[hF];rfl⟩
 ·exact weak rfl (by(refine⟨.strE (by first|with_reducible rfl|(rfl)),?_⟩;refine⟨.intE (by first|with_reducible rfl|(rfl)),?_⟩;refine⟨.strE (by first|with_reducible rfl|(rfl)),?_⟩;(iterate 2 refine⟨.eq rfl rfl,?_⟩);exact trivial)) (by(refine⟨.box _ rfl ?_,?_⟩;refine⟨.pvE (by first|with_reducible rfl|(rfl)),?_⟩;refine⟨.intE (by first|with_reducible rfl|(rfl)),?_⟩;refine⟨.pvE (by first|with_reducible rfl|(rfl)),?_⟩;refine⟨.intE (by first|with_reducible rfl|(rfl)),?_⟩;exact trivial;refine⟨.box _ rfl ?_,?_⟩;(iterate 2 refine⟨.pvE (by first|with_reducible rfl|(rfl)),?_⟩);(iterate 2 refine⟨.eq rfl rfl,?_⟩);(iterate 2 exact trivial))) rfl
 rintro⟨i,l⟩ ⟨hi,hinv⟩
 simp only at hi hinv ⊢
 have hll:=pre_len hinv
 have hzl:=mk_size l
 by_cases hlt:i<ss.length
 ·have hsi:=hsf _ (List.getElem_mem hlt)
  have hri:=hrq _ (List.getElem_mem hlt)
  have hd:=digits34_fn (i:Int) (by omega)
  have y3:=digT_le (z:=(i:Int)) (by omega)
  have z3:=mk_size (digT (i:Int))
  rw[List.drop_eq_getElem_cons hlt,statesT_c] at hinv
  generalize digT (i:Int)=dd at hd y3 z3 hinv
  obtain⟨R1,hR1⟩:∃R1,R1=statesT so at' fs ((i:Int)+1) (ss.drop (i+1)):=⟨_,rfl⟩
  rw[← hR1] at hinv
  have er:mkS l++⟨#[115,116,97,116,101,32]⟩++mkS dd++⟨#[10]⟩=mkS (l++([115,116,97,116,101,32]++(dd++ [10]))):=by(apply mk_of;first|(simp only[sL_app,sL_mk,List.append_assoc];done)|(simp only[sL_app,sL_mk,List.append_assoc];rfl)|(simp;done))
  (refine j175 ?_;refine j2 ?_;refine zm ?_;(with_reducible apply AOps.catS);(iterate 5 exact rfl);(first|omega|decide|(simp only[ByteArray.size_append];omega));refine zm ?_;refine zA (hd) ?_;(with_reducible apply AOps.catS);(iterate 5 exact rfl);(first|omega|decide|(simp only[ByteArray.size_append];omega));(with_reducible apply AOps.catS);(iterate 5 exact rfl);(first|omega|decide|(simp only[ByteArray.size_append];omega));refine j58 ?_;refine j92 ?_)
  (refine nz ?_;apply AW.loopR [6,4,3,2] [1,0] (fun p:Nat×Bt=>([(5,litS (mkS p.2)),(7,litI p.1)]:List (Nat×AV))) (fun p:Nat×Bt=>([]:List (Nat×Option Ob))) (fun p:Nat×Bt=>p.1≤fs.length∧p.2++(linesT so at' (fs.drop p.1) (ss[i].drop p.1)++R1)=F) (fun p:Nat×Bt=>fs.length - p.1) (((0:Nat),l++([115,116,97,116,101,32]++(dd++ [10]))));(conv=>lhs;simp only[Nf.lpR,Nf.all,Nat.reduceBEq,reduceAdd,reduceSub]);(all_goals skip))
  ·exact⟨Nat.zero_le _,by rw[← hinv];simp only[List.append_assoc,List.drop_zero]⟩
  ·exact weak rfl (by(refine⟨.strE (by first|rfl|(rw[er])),?_⟩;refine⟨.intE (by first|rfl|(rw[er])),?_⟩;refine⟨.intE (by first|rfl|(rw[er])),?_⟩;refine⟨.strE (by first|rfl|(rw[er])),?_⟩;(iterate 2 refine⟨.eq rfl rfl,?_⟩);exact trivial)) (by(refine⟨.box _ rfl ?_,?_⟩;refine⟨.pvE (by first|rfl|(rw[er])),?_⟩;refine⟨.intE (by first|rfl|(rw[er])),?_⟩;refine⟨.pvE (by first|rfl|(rw[er])),?_⟩;refine⟨.intE (by first|rfl|(rw[er])),?_⟩;exact trivial;refine⟨.box _ rfl ?_,?_⟩;refine⟨.pvE (by first|rfl|(rw[er])),?_⟩;refine⟨.pvE (by first|rfl|(rw[er])),?_⟩;(iterate 2 refine⟨.eq rfl rfl,?_⟩);(iterate 2 exact trivial))) rfl
  clear hinv hll hzl er hd
  rintro⟨k,l⟩ ⟨hk,hinv⟩
  simp only at hk hinv ⊢
  have hll:=pre_len hinv
  have hzl:=mk_size l
  by_cases hlk:k<fs.length
  ·have hlk':k<ss[i].length:=by omega
   rw[List.drop_eq_getElem_cons hlk,List.drop_eq_getElem_cons hlk',linesT_c,List.append_assoc,← List.append_assoc] at hinv
   have hll2:=pre_len hinv
   rw[List.length_append] at hll2
   have hln:=hlin k hlk ss[i][k] (hri _ (List.getElem_mem hlk')) (by omega)
   have zl:=mk_size (lineT so at' fs[k] ss[i][k])
   have er:mkS l++mkS (lineT so at' fs[k] ss[i][k])=mkS (l++lineT so at' fs[k] ss[i][k]):=by(apply mk_of;first|(simp only[sL_app,sL_mk,List.append_assoc];done)|(simp only[sL_app,sL_mk,List.append_assoc];rfl)|(simp;done))
   generalize lineT so at' fs[k] ss[i][k]=ll at hinv hll2 hln zl er
   (refine j238 ?_;refine j39 ?_;(with_reducible apply AW.regionQ);exact rfl;exact rfl;kernel_rfl;(with_reducible assumption);refine zm ?_;refine j100 ?_;(with_reducible apply AOps.load_bs);(iterate 3 exact rfl);(repeat' first|exact Sub.nil|apply Sub.take|apply Sub.skip);(iterate 3 exact rfl);refine zm ?_;refine j327 ?_;(focus ((with_reducible apply AOps.index_map);(iterate 7 exact rfl);rotate_left;omega));refine zr ?_;refine zm ?_;(focus ((with_reducible apply AOps.index_map);(iterate 7 exact rfl);rotate_left;omega));refine j167 ?_;refine zA (hln) ?_;(with_reducible apply AOps.catS);(iterate 5 exact rfl);(first|omega|decide|(simp only[ByteArray.size_append];omega));refine j158 ?_)
   exact⟨(k+1,l++ll),⟨by omega,hinv⟩,(by show fs.length - (k+1)<fs.length - k;omega),weak rfl (by(refine⟨.strE (by first|rfl|(rw[er])),?_⟩;refine⟨.intE (by first|rfl|(rw[er])),?_⟩;refine⟨.intE (by first|rfl|(rw[er])),?_⟩;refine⟨.strE (by first|rfl|(rw[er])),?_⟩;(iterate 2 refine⟨.eq rfl rfl,?_⟩);exact trivial)) (by(refine⟨.box _ rfl ?_,?_⟩;refine⟨.pvE (by first|rfl|(rw[er])),?_⟩;refine⟨.intE (by first|rfl|(rw[er])),?_⟩;refine⟨.pvE (by first|rfl|(rw[er])),?_⟩;refine⟨.intE (by first|rfl|(rw[er])),?_⟩;exact trivial;refine⟨.box _ rfl ?_,?_⟩;refine⟨.pvE (by first|rfl|(rw[er])),?_⟩;refine⟨.pvE (by first|rfl|(rw[er])),?_⟩;(iterate 2 refine⟨.eq rfl rfl,?_⟩);(iterate 2 exact trivial))) rfl⟩
  ·obtain rfl:k=fs.length:=by omega
   rw[List.drop_length,linesT_0,List.nil_append,hR1] at hinv
   (refine j238 ?_;refine zn ?_;refine j139 ?_;refine j4 ?_;refine j48 ?_)
   exact⟨(i+1,l),⟨by omega,by rw[Int.natCast_add];exact hinv⟩,(by show ss.length - (i+1)<ss.length - i;omega),weak rfl (by(refine⟨.strE (by first|with_reducible rfl|(rfl)),?_⟩;refine⟨.intE (by first|with_reducible rfl|(rfl)),?_⟩;refine⟨.strE (by first|with_reducible rfl|(rfl)),?_⟩;(iterate 2 refine⟨.eq rfl rfl,?_⟩);exact trivial)) (by(refine⟨.box _ rfl ?_,?_⟩;refine⟨.pvE (by first|with_reducible rfl|(rfl)),?_⟩;refine⟨.intE (by first|with_reducible rfl|(rfl)),?_⟩;refine⟨.pvE (by first|with_reducible rfl|(rfl)),?_⟩;refine⟨.intE (by first|with_reducible rfl|(rfl)),?_⟩;exact trivial;refine⟨.box _ rfl ?_,?_⟩;(iterate 2 refine⟨.pvE (by first|with_reducible rfl|(rfl)),?_⟩);(iterate 2 refine⟨.eq rfl rfl,?_⟩);(iterate 2 exact trivial))) rfl⟩
 ·obtain rfl:i=ss.length:=by omega
  have e:statesT so at' fs (ss.length:Int) []=[]:=by unfold statesT;rfl
  rw[List.drop_length,e,List.append_nil] at hinv
  subst hinv
  (refine j26 ?_;refine j22 ?_;refine j156 ?_;refine zm ?_;refine j11 ?_)
  (apply ends_ret;(exact Res.one (.tmp rfl rfl));(exact Le.pv _))
end Go.Ab
/- Chapter 34's reference:reading a table by places,in plain terms;it reads what was written. -/
namespace Go.Ab
open Go Go.Proofs
set_option maxRecDepth 20000
set_option maxHeartbeats 4000000
def tupI (s:Bt) (so:List SortM) (at':List Int):List Int→Bool→Int→Int→Int×Int
 |[],_,rank,a=>(rank,a)
 |k::ks,b,rank,a=>
  let a1:=if b then eatI s a [45,62] else a
  let q:=numI s (eatI s a1 (sL (so.getD k.toNat (⟨#[]⟩,false)).1++ [36]))
  if q.2<0∨at'.getD k.toNat 0≤q.1 then (0,-1) else tupI s so at' ks true (rank*at'.sum+(at'.take k.toNat).sum+q.1) q.2
def fieldI (s:Bt) (so:List SortM) (at' ks:List Int):Nat→List Int→Int→List Int×Int
 |0,ts,_=>(ts,-1)
 |n+1,ts,a=>
  if eatI s a [125,10]<0∧0≤a∧a<(s.length:Int) then
   let q:=tupI s so at' ks false 0 (if ts=[] then a else eatI s a [44,32])
   fieldI s so at' ks n (ts++ [q.1]) q.2
  else (ts,eatI s a [125,10])
def lineI (s:Bt) (so:List SortM) (at':List Int) (f:FieldM) (a:Int):RelM×Int:=
 let q:=fieldI s so at' f.sorts (2*s.length+4) [] (eatI s a (sL f.name++ [32,61,32,123]))
 (((f.sorts.length:Int),q.1),q.2)
def linesI (s:Bt) (so:List SortM) (at':List Int):List FieldM→List RelM→Int→List RelM×Int
 |[],acc,a=>(acc,a)
 |f::fs,acc,a=>if a<0 then (acc,a) else linesI s so at' fs (acc++ [(lineI s so at' f a).1]) (lineI s so at' f a).2
def stWord (i:Int):Bt:=[115,116,97,116,101,32]++(digT i++ [10])
def statesI (s:Bt) (so:List SortM) (at':List Int) (fs:List FieldM):Nat→Int→List (List RelM)→Int→List (List RelM)×Int
 |0,_,acc,a=>(acc,a)
 |n+1,i,acc,a=>statesI s so at' fs n (i+1) (acc++ [(linesI s so at' fs [] (eatI s a (stWord i))).1]) (linesI s so at' fs [] (eatI s a (stWord i))).2
def srtWord (q:SortM):Bt:=[32]++(sL q.1++ [61])
def atomsI (s:Bt):List SortM→List Int→Int→List Int×Int
 |[],acc,a=>(acc,a)
 |q::so,acc,a=>atomsI s so (acc++ [(numI s (eatI s a (srtWord q))).1]) (numI s (eatI s a (srtWord q))).2
structure HeadI where
 atoms:List Int
 st:Int
 lp:Int
 a:Int
def headI (so:List SortM) (s:Bt):HeadI:=
 let h:=atomsI s so [] (eatI s 0 [115,99,111,112,101])
 let st:=numI s (eatI s h.2 [32,115,116,101,112,115,61])
 let lp:=numI s (eatI s st.2 [32,108,111,111,112,61])
 ⟨h.1,st.1,lp.1,eatI s lp.2 [10]⟩
def refP (sp:SpecM) (t:Bt):ModM×Int:=
 let h:=headI sp.sorts t
 if h.a<0∨sortsIn sp.sorts.length sp.fields=false∨scopeOk sp.sorts.length h.atoms h.st=false then (zM,340)
 else
  let q:=statesI t sp.sorts h.atoms sp.fields h.st.toNat 0 [] h.a
  if q.2<0∨rValidB sp ⟨h.atoms,h.st,q.1,h.lp⟩=false∨fmtT sp ⟨h.atoms,h.st,q.1,h.lp⟩≠t then (zM,340) else (⟨h.atoms,h.st,q.1,h.lp⟩,0)
theorem eat_rng (s w:Bt) (a:Int): -1≤eatI s a w∧eatI s a w≤(s.length:Int)∧(eatI s a w<0∨(0≤a∧eatI s a w=a+w.length)):=by
 unfold eatI
 split
 ·rename_i h
  exact⟨by omega,h.2.1,.inr ⟨h.1,rfl⟩⟩
 ·exact⟨by omega,by omega,.inl (by omega)⟩
theorem num_rng (s:Bt) (a:Int):(0≤(numI s a).1∧(numI s a).1≤99)∧ -1≤(numI s a).2∧(numI s a).2≤(s.length:Int)∧((numI s a).2<0∨(0≤a∧a+1≤(numI s a).2)):=by
 unfold numI
 split
 ·rename_i h
  split
  ·rename_i h2
   exact⟨by simp only;omega,by simp only;omega,by simp only;omega,.inr (by simp only;omega)⟩
  ·exact⟨by simp only;omega,by simp only;omega,by simp only;omega,.inr (by simp only;omega)⟩
 ·exact⟨by simp,by simp,by simp only;omega,.inl (by simp)⟩
theorem tup_rng (s:Bt) (so:List SortM) (at':List Int):∀(ks:List Int) (b:Bool) (rank a:Int),-1≤a→a≤(s.length:Int)→ -1≤(tupI s so at' ks b rank a).2∧(tupI s so at' ks b rank a).2≤(s.length:Int)∧((tupI s so at' ks b rank a).2<0∨(if ks=[] then 0 else 1)+a≤(tupI s so at' ks b rank a).2)
 |[],b,rank,a,h1,h2=>⟨h1,h2,.inr (by simp [tupI])⟩
 |k::ks,b,rank,a,h1,h2=>by
  unfold tupI
  simp only
  obtain⟨f1,f2,f3⟩:=eat_rng s [45,62] a
  have g2:a≤(if b then eatI s a [45,62] else a)∨(if b then eatI s a [45,62] else a)<0:=by
   cases b with
   |false=>exact .inl (by simp)
   |true=>
    rw[if_pos rfl]
    rcases f3 with f3|f3
    ·exact .inr f3
    ·exact .inl (by simp only[List.length_cons,List.length_nil] at f3;omega)
  generalize (if b then eatI s a [45,62] else a)=a1 at g2 ⊢
  obtain⟨e1,e2,e3⟩:=eat_rng s (sL (so.getD k.toNat (⟨#[]⟩,false)).1++ [36]) a1
  generalize eatI s a1 (sL (so.getD k.toNat (⟨#[]⟩,false)).1++ [36])=a2 at e1 e2 e3 ⊢
  obtain⟨⟨n1,n2⟩,n3,n4,n5⟩:=num_rng s a2
  generalize numI s a2=q at n1 n2 n3 n4 n5 ⊢
  by_cases hc:q.2<0∨at'.getD k.toNat 0≤q.1
  ·rw[if_pos hc]
   exact⟨by simp,by simp only;omega,.inl (by simp)⟩
  ·rw[if_neg hc]
   obtain⟨t1,t2,t3⟩:=tup_rng s so at' ks true (rank*at'.sum+(at'.take k.toNat).sum+q.1) _ n3 n4
   refine⟨t1,t2,?_⟩
   rcases t3 with t3|t3
   ·exact .inl t3
   ·right
    rw[if_neg (by simp)]
    have hn:0≤q.2:=by
     rcases Int.lt_or_le q.2 0 with h|h
     ·exact absurd (.inl h) hc
     ·exact h
    have g1:q.2≤(if ks=[] then 0 else 1)+q.2:=by split<;>omega
    omega
theorem eat_sim {s w r:Bt} {a:Nat} (h:cutT w (s.drop a)=some r) (ha:a≤s.length):eatI s (a:Int) w=((a+w.length:Nat):Int)∧r=s.drop (a+w.length)∧a+w.length≤s.length:=by
 unfold cutT at h
 split at h
 ·rename_i hp
  cases h
  have hp:=List.isPrefixOf_iff_prefix.1 hp
  have hl:=hp.length_le
  rw[List.length_drop] at hl
  refine⟨?_,by rw[List.drop_drop],by omega⟩
  unfold eatI
  rw[if_pos ⟨by omega,by omega,by rw[Int.toNat_natCast];exact(List.prefix_iff_eq_take.1 hp).symm⟩]
  omega
 ·cases h
theorem skip_cut:∀{ws:List Bt} {t r:Bt},skipT ws t=some r→cutT ws.flatten t=some r
 |[],t,r,h=>by cases h;simp [cutT]
 |w::ws,t,r,h=>by
  unfold skipT at h
  obtain⟨u,h1,h2⟩:=Option.bind_eq_some_iff.1 h
  have ih:=skip_cut h2
  unfold cutT at h1 ih ⊢
  split at h1
  ·rename_i hp
   cases h1
   obtain⟨v,rfl⟩:=List.isPrefixOf_iff_prefix.1 hp
   rw[List.drop_left] at ih
   split at ih
   ·rename_i hp2
    obtain⟨v2,rfl⟩:=List.isPrefixOf_iff_prefix.1 hp2
    rw[List.drop_left] at ih
    cases ih
    rw[if_pos (by rw[List.isPrefixOf_iff_prefix];exact⟨_,by rw[List.flatten_cons,List.append_assoc]⟩),List.flatten_cons,← List.append_assoc,List.drop_left]
   ·cases ih
  ·cases h1
theorem num_sim {s r:Bt} {a:Nat} {v:Int} (h:numT (s.drop a)=some (v,r)):∃b:Nat,numI s (a:Int)=(v,(b:Int))∧r=s.drop b∧b≤s.length:=by
 unfold numT at h
 split at h
 ·cases h
 rename_i h0
 cases h
 have hg:∀k,(s.drop a).getD k 0=s.getD (a+k) 0:=fun k=>by rw[List.getD_eq_getElem?_getD,List.getElem?_drop,← List.getD_eq_getElem?_getD]
 have hb:∀k,byteAt (mkS s) k=(((s.getD k 0).toNat:Nat):Int):=fun k=>rfl
 have hl:(s.drop a).length=s.length - a:=List.length_drop
 generalize hd:s.drop a=u at*
 rcases u with _|⟨c,_|⟨d,u⟩⟩
 ·exact absurd rfl h0
 ·have hc:s.getD a 0=c:=by have:=hg 0;simpa using this.symm
  simp only[List.length_cons,List.length_nil] at hl
  rw[numN_1] at h0 ⊢
  have hD:isD c=true:=by cases e:isD c with|true=>rfl|false=>rw[e] at h0;exact absurd rfl h0
  have hD2:48≤c.toNat∧c.toNat≤57:=by simpa [isD] using hD
  refine⟨a+1,?_,by rw[hD,if_pos rfl,← List.drop_drop,hd],by omega⟩
  unfold numI
  rw[Int.toNat_natCast,hb,hb,hc,if_pos ⟨by omega,by omega,by omega,by omega⟩,if_neg (by omega)]
  rfl
 ·have hc:s.getD a 0=c:=by have:=hg 0;simpa using this.symm
  have hdd:s.getD (a+1) 0=d:=by have:=hg 1;simpa using this.symm
  simp only[List.length_cons] at hl
  rw[numN_2] at h0 ⊢
  have hD:isD c=true:=by cases e:isD c with|true=>rfl|false=>rw[e] at h0;exact absurd rfl h0
  have hD2:48≤c.toNat∧c.toNat≤57:=by simpa [isD] using hD
  rw[hD,if_pos rfl,numV_2]
  unfold numI
  rw[Int.toNat_natCast,hb,hb,hc,hdd,if_pos ⟨by omega,by omega,by omega,by omega⟩]
  cases e:isD d with
  |true=>
   have hE2:48≤d.toNat∧d.toNat≤57:=by simpa [isD] using e
   refine⟨a+2,?_,by rw[if_pos rfl,← List.drop_drop,hd],by omega⟩
   rw[if_pos ⟨by omega,by omega,by omega⟩,if_pos rfl]
   unfold valD
   congr 1
   omega
  |false=>
   have hE2:¬(48≤d.toNat∧d.toNat≤57):=by simpa [isD] using e
   refine⟨a+1,?_,by rw[if_neg (by simp),← List.drop_drop,hd],by omega⟩
   rw[if_neg (by omega),if_neg (by simp)]
   rfl
end Go.Ab
/- Chapter 34's reference reads as the program does,in plain terms. -/
namespace Go.Ab
open Go Go.Proofs
set_option maxRecDepth 20000
set_option maxHeartbeats 4000000
theorem eat_none {s w:Bt} {a:Nat} (h:cutT w (s.drop a)=none):eatI s (a:Int) w= -1:=by
 unfold cutT at h
 split at h
 ·cases h
 ·rename_i hp
  unfold eatI
  rw[if_neg]
  rintro⟨h1,h2,h3⟩
  rw[Int.toNat_natCast] at h3
  exact hp (List.isPrefixOf_iff_prefix.2 (List.prefix_iff_eq_take.2 h3.symm))
theorem num_pos {t r:Bt} {v:Int} (h:numT t=some (v,r)):0≤v:=(num_spec h).1
theorem elt_rng {at':List Int} (h5:Ok5 at') {k v:Int} (h0:0≤v) (h:¬at'.getD k.toNat 0≤v):0≤(at'.take k.toNat).sum+v∧(at'.take k.toNat).sum+v≤at'.sum - 1:=by
 have hk:k.toNat<at'.length:=by
  rcases Nat.lt_or_ge k.toNat at'.length with h1|h1
  ·exact h1
  ·exfalso
   apply h
   rw[List.getD_eq_getElem?_getD,List.getElem?_eq_none h1]
   exact h0
 rw[getD_at hk] at h
 have h1:=sumQ hk
 have h2:(at'.take (k.toNat+1)).sum≤(at'.take at'.length).sum:=take_mono h5.nn hk
 rw[List.take_length] at h2
 have h3:=sum_nn (l:=at'.take k.toNat) fun y hy=>h5.nn y (List.mem_of_mem_take hy)
 omega
theorem tup_sim {s:Bt} {so:List SortM} {at':List Int} (h5:Ok5 at'):∀{ks acc xs:List Int} {r:Bt} {a:Nat} (b:Bool) (rank:Int),tupP so at' ks acc (s.drop a)=some (xs,r)→a≤s.length→b=!decide (acc=[])→
  ∃(ys:List Int) (e:Nat),xs=acc++ys∧ys.length=ks.length∧tupI s so at' ks b rank (a:Int)=(rankF at'.sum ys rank,(e:Int))∧r=s.drop e∧e≤s.length
 |[],acc,xs,r,a,b,rank,h,ha,hb=>by
  cases h
  exact⟨[],a,by simp,rfl,rfl,rfl,ha⟩
 |k::ks,acc,xs,r,a,b,rank,h,ha,hb=>by
  unfold tupP at h
  obtain⟨s1,h1,h⟩:=Option.bind_eq_some_iff.1 h
  obtain⟨s2,h2,h⟩:=Option.bind_eq_some_iff.1 h
  obtain⟨⟨v,s3⟩,h3,h⟩:=Option.bind_eq_some_iff.1 h
  simp only at h
  split at h
  ·cases h
  rename_i hv
  have hv0:=num_pos h3
  obtain⟨a1,ea1,rfl,ha1⟩:∃a1:Nat,(if b then eatI s a [45,62] else (a:Int))=(a1:Int)∧s1=s.drop a1∧a1≤s.length:=by
   by_cases hacc:acc=[]
   ·rw[if_pos hacc] at h1
    cases h1
    refine⟨a,?_,rfl,ha⟩
    rw[hb,decide_eq_true hacc];rfl
   ·rw[if_neg hacc] at h1
    obtain⟨q1,q2,q3⟩:=eat_sim h1 ha
    refine⟨_,?_,q2,q3⟩
    rw[hb,decide_eq_false hacc]
    exact q1
  have h2':=skip_cut h2
  simp only[List.flatten_cons,List.flatten_nil,List.append_nil] at h2'
  obtain⟨e1,e2,e3⟩:=eat_sim h2' ha1
  subst e2
  obtain⟨e,n1,rfl,n3⟩:=num_sim h3
  obtain⟨ys,e',q1,q2,q3,q4,q5⟩:=tup_sim h5 true (rank*at'.sum+(at'.take k.toNat).sum+v) h n3 (by simp)
  refine⟨((at'.take k.toNat).sum+v)::ys,e',by rw[q1];simp,by simp [q2],?_,q4,q5⟩
  unfold tupI
  simp only
  rw[ea1,e1,n1]
  simp only
  rw[if_neg (by omega),q3]
  congr 1
  have hr:=elt_rng h5 hv0 hv
  conv=>rhs;unfold rankF
  rw[if_pos hr,Int.add_assoc]
theorem field_sim {s:Bt} {so:List SortM} {at' ks:List Int} (h5:Ok5 at') (hk:ks≠ []) (hk3:ks.length≤3):∀{n n':Nat} {ts rs:List Int} {r:Bt} {a:Nat},fieldP so at' ks n ts (s.drop a)=some (rs,r)→a≤s.length→n≤n'→
  ∃e:Nat,fieldI s so at' ks n' ts (a:Int)=(rs,(e:Int))∧r=s.drop e∧e≤s.length
 |0,_,_,_,_,_,h,_,_=>by cases h
 |n+1,0,_,_,_,_,_,_,h=>by omega
 |n+1,n'+1,ts,rs,r,a,h,ha,hn=>by
  unfold fieldP at h
  unfold fieldI
  cases hc:cutT [125,10] (s.drop a) with
  |some u=>
   rw[hc] at h
   cases h
   obtain⟨e1,e2,e3⟩:=eat_sim hc ha
   rw[e1,if_neg (by omega)]
   exact⟨_,rfl,e2,e3⟩
  |none=>
   rw[hc] at h
   simp only at h
   obtain⟨s1,h1,h⟩:=Option.bind_eq_some_iff.1 h
   obtain⟨⟨xs,s2⟩,h2,h⟩:=Option.bind_eq_some_iff.1 h
   simp only at h
   rw[eat_none hc]
   obtain⟨a1,ea1,rfl,ha1,ha2⟩:∃a1:Nat,(if ts=[] then (a:Int) else eatI s a [44,32])=(a1:Int)∧s1=s.drop a1∧a1≤s.length∧a≤a1:=by
    by_cases ht:ts=[]
    ·rw[if_pos ht] at h1 ⊢
     cases h1
     exact⟨a,rfl,rfl,ha,Nat.le_refl _⟩
    ·rw[if_neg ht] at h1 ⊢
     obtain⟨q1,q2,q3⟩:=eat_sim h1 ha
     exact⟨_,q1,q2,q3,by omega⟩
   obtain⟨ys,e,q1,q2,q3,rfl,q5⟩:=tup_sim h5 false 0 h2 ha1 (by simp)
   have hrg:=tup_rng s so at' ks false 0 (a1:Int) (by omega) (by omega)
   rw[q3,if_neg hk] at hrg
   simp only at hrg
   rw[if_pos ⟨by omega,by omega,by omega⟩,ea1,q3]
   simp only
   rw[List.nil_append] at q1
   subst q1
   have er:rnk at' xs=rankF at'.sum xs 0:=by unfold rnk;rw[if_pos (by omega)]
   rw[er] at h
   exact field_sim h5 hk hk3 h q5 (by omega)
def FldOk (f:FieldM):Prop:=f.sorts≠ []∧f.sorts.length≤3
theorem line_sim {s:Bt} {so:List SortM} {at':List Int} (h5:Ok5 at') {f:FieldM} (hf:FldOk f) {q:RelM} {r:Bt} {a:Nat} (h:lineP so at' f (s.drop a)=some (q,r)) (ha:a≤s.length):∃e:Nat,lineI s so at' f (a:Int)=(q,(e:Int))∧r=s.drop e∧e≤s.length:=by
 unfold lineP at h
 obtain⟨s1,h1,h⟩:=Option.bind_eq_some_iff.1 h
 obtain⟨⟨rs,s2⟩,h2,h⟩:=Option.map_eq_some_iff.1 h
 cases h
 have h1':=skip_cut h1
 simp only[List.flatten_cons,List.flatten_nil,List.append_nil] at h1'
 obtain⟨e1,rfl,e3⟩:=eat_sim h1' ha
 obtain⟨e,q1,q2,q3⟩:=field_sim (n':=2*s.length+4) h5 hf.1 hf.2 h2 e3 (by rw[List.length_drop];omega)
 refine⟨e,?_,q2,q3⟩
 unfold lineI
 simp only
 rw[e1,q1]
theorem lines_sim {s:Bt} {so:List SortM} {at':List Int} (h5:Ok5 at'):∀{fs:List FieldM} {acc rs:List RelM} {r:Bt} {a:Nat},(∀f∈fs,FldOk f)→linesP so at' fs acc (s.drop a)=some (rs,r)→a≤s.length→∃e:Nat,linesI s so at' fs acc (a:Int)=(rs,(e:Int))∧r=s.drop e∧e≤s.length
 |[],acc,rs,r,a,_,h,ha=>by cases h;exact⟨a,rfl,rfl,ha⟩
 |f::fs,acc,rs,r,a,hf,h,ha=>by
  rw[linesP_c] at h
  obtain⟨⟨q,s1⟩,h1,h⟩:=Option.bind_eq_some_iff.1 h
  simp only at h
  obtain⟨e,e1,rfl,e3⟩:=line_sim h5 (hf f (by simp)) h1 ha
  unfold linesI
  rw[if_neg (by omega),e1]
  exact lines_sim h5 (fun g hg=>hf g (by simp [hg])) h e3
theorem states_sim {s:Bt} {so:List SortM} {at':List Int} (h5:Ok5 at') {fs:List FieldM} (hf:∀f∈fs,FldOk f):∀{n:Nat} {i:Int} {acc rs:List (List RelM)} {r:Bt} {a:Nat},statesP so at' fs n i acc (s.drop a)=some (rs,r)→a≤s.length→∃e:Nat,statesI s so at' fs n i acc (a:Int)=(rs,(e:Int))∧r=s.drop e∧e≤s.length
 |0,i,acc,rs,r,a,h,ha=>by cases h;exact⟨a,rfl,rfl,ha⟩
 |n+1,i,acc,rs,r,a,h,ha=>by
  rw[statesP_s] at h
  obtain⟨s1,h1,h⟩:=Option.bind_eq_some_iff.1 h
  obtain⟨⟨q,s2⟩,h2,h⟩:=Option.bind_eq_some_iff.1 h
  simp only at h
  have h1':=skip_cut h1
  simp only[List.flatten_cons,List.flatten_nil,List.append_nil] at h1'
  obtain⟨e1,rfl,e3⟩:=eat_sim h1' ha
  obtain⟨e,g1,rfl,g3⟩:=lines_sim h5 hf h2 e3
  unfold statesI
  rw[show stWord i=[115,116,97,116,101,32]++(digT i++ [10]) from rfl,e1,g1]
  exact states_sim h5 hf h g3
theorem atoms_sim {s:Bt}:∀{so:List SortM} {acc q:List Int} {r:Bt} {a:Nat},atomsP so acc (s.drop a)=some (q,r)→a≤s.length→∃e:Nat,atomsI s so acc (a:Int)=(q,(e:Int))∧r=s.drop e∧e≤s.length
 |[],acc,q,r,a,h,ha=>by cases h;exact⟨a,rfl,rfl,ha⟩
 |x::so,acc,q,r,a,h,ha=>by
  rw[atomsP_c] at h
  obtain⟨s1,h1,h⟩:=Option.bind_eq_some_iff.1 h
  obtain⟨⟨v,s2⟩,h2,h⟩:=Option.bind_eq_some_iff.1 h
  simp only at h
  have h1':=skip_cut h1
  simp only[List.flatten_cons,List.flatten_nil,List.append_nil] at h1'
  obtain⟨e1,rfl,e3⟩:=eat_sim h1' ha
  obtain⟨e,n1,rfl,n3⟩:=num_sim h2
  unfold atomsI
  rw[show srtWord x=[32]++(sL x.1++ [61]) from rfl,e1,n1]
  exact atoms_sim h n3
theorem skip_one {w t r:Bt} (h:skipT [w] t=some r):cutT w t=some r:=by
 have:=skip_cut h
 simpa using this
theorem ref_sim {sp:SpecM} {t r:Bt} {m:ModM} (h:modelP sp t=some (m,r)) (hv:validB (fullR m.atoms) sp m=true) (hf:fmtT sp m=t):refP sp t=(m,0):=by
 have hv2:=hv
 rw[← valid_eq] at hv2
 obtain⟨q1,q2,q3,q4⟩:=valid_spec hv
 have h5:=scope5 q1
 have hfo:∀f∈sp.fields,FldOk f:=fun f hf'=>by
  unfold fieldsB at q3
  rw[List.all_eq_true] at q3
  obtain⟨⟨c1,c2⟩,_⟩:=cols_spec (q3 f hf')
  exact⟨by intro e;rw[e] at c1;simp at c1,c2⟩
 unfold modelP at h
 obtain⟨t1,e1,hA⟩:=Option.bind_eq_some_iff.1 h
 obtain⟨⟨ats,t2⟩,e2,hB⟩:=Option.bind_eq_some_iff.1 hA
 obtain⟨t3,e3,hC⟩:=Option.bind_eq_some_iff.1 hB
 obtain⟨⟨stv,t4⟩,e4,hD⟩:=Option.bind_eq_some_iff.1 hC
 obtain⟨t5,e5,hE⟩:=Option.bind_eq_some_iff.1 hD
 obtain⟨⟨lpv,t6⟩,e6,hF⟩:=Option.bind_eq_some_iff.1 hE
 obtain⟨t7,e7,hG⟩:=Option.bind_eq_some_iff.1 hF
 clear h hA hB hC hD hE hF
 simp only at e3 e4 e5 e6 e7 hG
 split at hG
 ·rename_i hcond
  obtain⟨⟨sts,t8⟩,e8,hH⟩:=Option.map_eq_some_iff.1 hG
  clear hG
  cases hH
  simp only at h5 hv hv2
  have e1':=skip_one (t:=t.drop 0) e1
  obtain⟨f1,rfl,f3⟩:=eat_sim e1' (Nat.zero_le _)
  obtain⟨a2,g1,rfl,g3⟩:=atoms_sim e2 f3
  obtain⟨k1,rfl,k3⟩:=eat_sim (skip_one e3) g3
  obtain⟨a4,n1,rfl,n3⟩:=num_sim e4
  obtain⟨l1,rfl,l3⟩:=eat_sim (skip_one e5) n3
  obtain⟨a6,p1,rfl,p3⟩:=num_sim e6
  obtain⟨w1,rfl,w3⟩:=eat_sim (skip_one e7) p3
  obtain⟨a8,s1,rfl,s3⟩:=states_sim h5 hfo e8 w3
  have hh:headI sp.sorts t=⟨ats,stv,lpv,((a6+ [(10:UInt8)].length:Nat):Int)⟩:=by
   unfold headI
   simp only
   rw[show(0:Int)=((0:Nat):Int) from rfl,f1,g1]
   simp only
   rw[k1,n1]
   simp only
   rw[l1,p1]
   simp only
   rw[w1]
  unfold refP
  simp only
  rw[hh]
  simp only
  rw[if_neg (by rw[hcond.1,hcond.2];simp;omega),s1]
  simp only
  rw[if_neg]
  rintro(h|h|h)
  ·omega
  ·rw[hv2] at h;cases h
  ·exact h hf
 ·cases hG
theorem ref_eq {sp:SpecM} (hp:SpP sp) (t:Bt):refP sp t=parseF sp t:=by
 by_cases hg:∃m r,modelP sp t=some (m,r)∧validB (fullR m.atoms) sp m=true∧fmtT sp m=t
 ·obtain⟨m,r,h1,h2,h3⟩:=hg
  rw[ref_sim h1 h2 h3]
  unfold parseF
  rw[h1]
  simp only
  rw[if_pos ⟨h2,h3⟩]
 ·have e:parseF sp t=(zM,340):=by
   unfold parseF
   split
   ·rfl
   ·rename_i m r h
    rw[if_neg]
    rintro⟨h2,h3⟩
    exact hg ⟨m,r,h,h2,h3⟩
  rw[e]
  unfold refP
  simp only
  split
  ·rfl
  ·split
   ·rfl
   ·rename_i h1 h2
    exfalso
    simp only[not_or] at h2
    obtain⟨_,h3,h4⟩:=h2
    have h3:=eq_true_of_ne_false h3
    rw[valid_eq] at h3
    have h4:=Classical.not_not.1 h4
    have h5:=modelP_app (tab_ok hp h3) []
    rw[List.append_nil,h4] at h5
    exact hg ⟨_,_,h5,h3,h4⟩
end Go.Ab
/- Chapter 34's reference:tuples and fields read by places,walked. -/
namespace Go.Ab
open Go Go.Proofs
open Nat (reduceAdd reduceSub)
set_option maxRecDepth 20000
set_option maxHeartbeats 4000000
theorem tupI_c (s:Bt) (so:List SortM) (at':List Int) (k:Int) (ks:List Int) (b:Bool) (rank a:Int):tupI s so at' (k::ks) b rank a=if (numI s (eatI s (if b then eatI s a [45,62] else a) (sL (so.getD k.toNat (⟨#[]⟩,false)).1++ [36]))).2<0∨at'.getD k.toNat 0≤(numI s (eatI s (if b then eatI s a [45,62] else a) (sL (so.getD k.toNat (⟨#[]⟩,false)).1++ [36]))).1 then (0,-1) else tupI s so at' ks true (rank*at'.sum+(at'.take k.toNat).sum+(numI s (eatI s (if b then eatI s a [45,62] else a) (sL (so.getD k.toNat (⟨#[]⟩,false)).1++ [36]))).1) (numI s (eatI s (if b then eatI s a [45,62] else a) (sL (so.getD k.toNat (⟨#[]⟩,false)).1++ [36]))).2:=rfl
theorem tupI_0 (s:Bt) (so:List SortM) (at':List Int) (b:Bool) (rank a:Int):tupI s so at' [] b rank a=(rank,a):=rfl
theorem fieldI_s (s:Bt) (so:List SortM) (at' ks:List Int) (n:Nat) (ts:List Int) (a:Int):fieldI s so at' ks (n+1) ts a=if eatI s a [125,10]<0∧0≤a∧a<(s.length:Int) then fieldI s so at' ks n (ts++ [(tupI s so at' ks false 0 (if ts=[] then a else eatI s a [44,32])).1]) (tupI s so at' ks false 0 (if ts=[] then a else eatI s a [44,32])).2 else (ts,eatI s a [125,10]):=rfl
def leftF (s:Bt) (ts:List Int) (a:Int):Nat:=if a<0 then 0 else 2*(s.length - a.toNat)+(if ts=[] then 1 else 0)+1
theorem word_a:mkS [45,62]=⟨#[45,62]⟩:=rfl
theorem word_e:mkS [125,10]=⟨#[125,10]⟩:=rfl
theorem word_c:mkS [44,32]=⟨#[44,32]⟩:=rfl
theorem word_n (x:ByteArray):x++⟨#[36]⟩=mkS (sL x++ [36]):=by apply mk_of;rw[sL_app]
theorem word_f (x:ByteArray):x++⟨#[32,61,32,123]⟩=mkS (sL x++ [32,61,32,123]):=by apply mk_of;rw[sL_app]
theorem powI:∀i:Nat,i≤10→(100≤(100:Int)*20 ^ i∧(100:Int)*20 ^ i≤1024000000000000)∧(100:Int)*20 ^ (i+1)=20*(100*20 ^ i):=by
 intro i hi
 refine⟨?_,by rw[Int.pow_succ];omega⟩
 have key:∀i:Nat,i<11→(100≤(100:Int)*20 ^ i∧(100:Int)*20 ^ i≤1024000000000000):=by decide
 exact key i (by omega)
theorem mul_rng {r n B:Int} (h0:0≤r) (h1:r≤B) (hn:0≤n) (hn2:n≤12) (hB:100≤B∧B≤1024000000000000):0≤r*n∧r*n≤12*B:=by
 have h2:r*n≤r*12:=Int.mul_le_mul_of_nonneg_left hn2 h0
 have h3:=Int.mul_nonneg h0 hn
 omega
attribute [local irreducible] AW AOps thenD inBlockD AR iterEnds roundEndsN inlEnds noGotoD EndsX EndsP byteAt mkS eatI numI tupI fieldI
theorem first34_fn (at':List Int) (st:Int) (k:Nat) (h5:Ok5 at') (hk:k<at'.length):Fn Tryz.prog 93 [scp at' st,litI (k:Nat)] (litI (at'.take k).sum):=by
 have hs4:=h5.len
 refine Fn.enter (n:=27) Tryz.func93 rfl rfl rfl rfl rfl (by decide) fun g hro_ hwt_=>?_;(try refine nz ?_)
 (refine zq ?_;refine j40 ?_;refine j58 ?_;refine j311 ?_)
 (refine nz ?_;apply AW.loopR [4,2,1] [0] (fun i:Nat=>([(5,litI (at'.take i).sum),(6,litI i)]:List (Nat×AV))) (fun i:Nat=>([]:List (Nat×Option Ob))) (fun i:Nat=>i≤k) (fun i:Nat=>k - i) (0);(conv=>lhs;simp only[Nf.lpR,Nf.all,Nat.reduceBEq,reduceAdd,reduceSub]);(all_goals skip))
 ·exact Nat.zero_le _
 ·exact weak rfl (by(refine⟨.intE (by first|with_reducible rfl|(rfl)),?_⟩;(iterate 2 refine⟨.intE (by first|with_reducible rfl|(rfl)),?_⟩);refine⟨.eq rfl rfl,?_⟩;refine⟨.intE (by first|with_reducible rfl|(rfl)),?_⟩;exact trivial)) (by(refine⟨.box _ rfl ?_,?_⟩;refine⟨.pvE (by first|with_reducible rfl|(rfl)),?_⟩;refine⟨.intE (by first|with_reducible rfl|(rfl)),?_⟩;(iterate 2 exact trivial))) rfl
 rintro i hi
 by_cases hlt:i<k
 ·have hil:i<at'.length:=by omega
  have hbi:=h5.each _ (List.getElem_mem hil)
  have hsi:=sumQ hil
  have hti:=h5.sm.take i
  (refine j142 ?_;refine zs ?_;refine j41 ?_;refine AOps.fieldAddrN 30 0 0 rfl rfl rfl rfl ?_;refine zt ?_;refine zb ?_;refine zt ?_;refine zn ?_;refine zt ?_;refine zs ?_;refine zT ?_;refine zd ?_;refine j1 ?_;refine j372 ?_;refine j28 ?_;refine zm ?_;(focus ((with_reducible apply AOps.index_map);(iterate 7 exact rfl);rotate_left;omega));refine zr ?_;refine zj ?_;refine j158 ?_)
  exact⟨i+1,by omega,by omega,weak rfl (by(refine⟨.intE (by first|rfl|(rw[hsi])),?_⟩;refine⟨.intE (by first|rfl|(rw[hsi])),?_⟩;refine⟨.intE (by first|rfl|(rw[hsi])),?_⟩;refine⟨.eq rfl rfl,?_⟩;refine⟨.intE (by first|rfl|(rw[hsi])),?_⟩;exact trivial)) (by(refine⟨.box _ rfl ?_,?_⟩;refine⟨.pvE (by first|rfl|(rw[hsi])),?_⟩;refine⟨.intE (by first|rfl|(rw[hsi])),?_⟩;(iterate 2 exact trivial))) rfl⟩
 ·obtain rfl:i=k:=by omega
  (refine j142 ?_;refine j353 ?_;(iterate 5 refine AOps.guardTn rfl rfl rfl rfl rfl rfl (by first|omega|decide) ?_);refine zF ?_;refine zd ?_;refine j44 ?_;refine j2 ?_;refine zm ?_;refine j11 ?_)
  (apply ends_ret;(exact Res.one (.tmp rfl rfl));(refine Le.litI ?_;(rfl)))
theorem readTuple_fn (sp:SpecM) (f:FieldM) (at':List Int) (st a:Int) (s:Bt) (h5:Ok5 at') (hl:sp.sorts.length=at'.length) (hin:insB sp.sorts.length f.sorts=true) (hks:f.sorts.length≤10) (hz:∀q∈sp.sorts,q.1.size≤16) (hs:s.length≤1000000000) (ha: -1≤a∧a≤(s.length:Int)):Fn Tryz.prog 69 [spc sp,scp at' st,fld f,litS (mkS s),litI a] (.tup [litI (tupI s sp.sorts at' f.sorts false 0 a).1,litI (tupI s sp.sorts at' f.sorts false 0 a).2]):=by
 have hat:=rAtoms_fn at' st h5.sm
 have hs4:=h5.len
 have hsum:=h5.sum
 have hn0:=sum_nn (l:=at') h5.nn
 obtain⟨so,fs,p_,q_⟩:=sp
 obtain⟨nm_,ks,var_⟩:=f
 simp only at hl hin hks hz ⊢
 have hin2:=insB_all.1 hin
 generalize hT0:tupI s so at' ks false 0 a=T
 have x36:(ByteArray.mk #[36]).size=1:=rfl
 refine Fn.enter (n:=79) Tryz.func69 rfl rfl rfl rfl rfl (by decide) fun g hro_ hwt_=>?_;(try refine nz ?_)
 (refine zq ?_;refine j5 ?_;refine j40 ?_;refine j101 ?_;refine j2 ?_;refine j311 ?_)
 (refine nz ?_;apply AW.loopR [7,6,5,2,3] [2,1,0] (fun p:Nat×Int×Int=>([(4,litI p.2.2),(12,litI p.2.1),(13,litI p.1)]:List (Nat×AV))) (fun p:Nat×Int×Int=>([]:List (Nat×Option Ob))) (fun p:Nat×Int×Int=>p.1≤ks.length∧ -1≤p.2.2∧p.2.2≤(s.length:Int)∧0≤p.2.1∧p.2.1≤100*20 ^ p.1∧T=tupI s so at' (ks.drop p.1) (!decide (p.1=0)) p.2.1 p.2.2) (fun p:Nat×Int×Int=>ks.length - p.1) (((0:Nat),0,a));(conv=>lhs;simp only[Nf.lpR,Nf.all,Nat.reduceBEq,reduceAdd,reduceSub]);(all_goals skip))
 ·exact⟨Nat.zero_le _,ha.1,ha.2,Int.le_refl _,by simp,hT0.symm⟩
 ·exact weak rfl (by(refine⟨.intE (by first|with_reducible rfl|(rfl)),?_⟩;(iterate 2 refine⟨.intE (by first|with_reducible rfl|(rfl)),?_⟩);(iterate 4 refine⟨.eq rfl rfl,?_⟩);refine⟨.strE (by first|with_reducible rfl|(rfl)),?_⟩;exact trivial)) (by(refine⟨.box _ rfl ?_,?_⟩;refine⟨.strE (by first|with_reducible rfl|(rfl)),?_⟩;refine⟨.pvE (by first|with_reducible rfl|(rfl)),?_⟩;refine⟨.boolE (by first|with_reducible rfl|(rfl)),?_⟩;exact trivial;refine⟨.box _ rfl ?_,?_⟩;refine⟨.pvE (by first|with_reducible rfl|(rfl)),?_⟩;refine⟨.intE (by first|with_reducible rfl|(rfl)),?_⟩;exact trivial;refine⟨.box _ rfl ?_,?_⟩;(iterate 2 refine⟨.pvE (by first|with_reducible rfl|(rfl)),?_⟩);(iterate 2 refine⟨.eq rfl rfl,?_⟩);(iterate 2 exact trivial))) rfl
 rintro⟨i,rank,a⟩ ⟨hi,ha1,ha2,hr0,hr1,hT⟩
 simp only at hi ha1 ha2 hr0 hr1 hT ⊢
 by_cases hlt:i<ks.length
 ·obtain⟨g1,g2⟩:=hin2 _ (List.getElem_mem hlt)
  rw[List.drop_eq_getElem_cons hlt,tupI_c] at hT
  have hks':ks[i].toNat<so.length:=by omega
  have hka:ks[i].toNat<at'.length:=by omega
  rw[getDS hks',getD_at hka] at hT
  have hzk:=hz _ (List.getElem_mem hks')
  by_cases hi0:i=0
  ·subst hi0
   have e0:(if (!decide (0=0))=true then eatI s a [45,62] else a)=a:=by simp
   rw[e0] at hT
   have hnum:=number34_fn s (eatI s a (sL so[ks[0].toNat].1++ [36])) hs (by have:=(eat_rng s (sL so[ks[0].toNat].1++ [36]) a);omega)
   have heat:=eat_fn s (sL so[ks[0].toNat].1++ [36]) a hs (by rw[List.length_append,mk_len];simp;omega) (by omega)
   rw[← word_n] at heat
   obtain⟨⟨n1,n2⟩,n3,n4,n5⟩:=num_rng s (eatI s a (sL so[ks[0].toNat].1++ [36]))
   generalize eatI s a (sL so[ks[0].toNat].1++ [36])=a2 at hnum heat hT n1 n2 n3 n4 n5
   generalize numI s a2=q at hnum hT n1 n2 n3 n4 n5
   obtain⟨v,e⟩:=q
   simp only at hnum hT n1 n2 n3 n4 n5
   by_cases c1:e<0
   ·rw[if_pos (.inl c1)] at hT
    rw[hT]
    (refine j245 ?_;refine j133 ?_;refine zo ?_;(with_reducible apply AW.regionQ);exact rfl;exact rfl;kernel_rfl;(with_reducible assumption);refine j287 ?_;refine zm ?_;(focus ((with_reducible apply AOps.index_map);(iterate 7 exact rfl);rotate_left;omega));refine zr ?_;(focus ((with_reducible apply AOps.index_mapI);(iterate 7 exact rfl);omega;rotate_left;(first|omega|exact Nat.zero_lt_one|(simp;done))));refine j128 ?_;(with_reducible apply AOps.catS);(iterate 5 exact rfl);(first|omega|decide|(simp only[ByteArray.size_append];omega));refine j160 ?_;(with_reducible apply AW.regionQ);exact rfl;exact rfl;kernel_rfl;(with_reducible assumption);refine zm ?_;refine j355 ?_)
    (apply ends_ret;(exact Res.two (.tmp rfl rfl) (.tmp rfl rfl));(refine Le.tupL ?_;refine LeL.cons ?_ ?_;refine Le.litI ?_;(rfl);refine LeL.cons ?_ ?_;refine Le.litI ?_;(rfl);exact LeL.nil))
   by_cases c2:at'[ks[0].toNat]≤v
   ·rw[if_pos (.inr c2)] at hT
    rw[hT]
    (refine j245 ?_;refine j133 ?_;refine zo ?_;(with_reducible apply AW.regionQ);exact rfl;exact rfl;kernel_rfl;(with_reducible assumption);refine j287 ?_;refine zm ?_;(focus ((with_reducible apply AOps.index_map);(iterate 7 exact rfl);rotate_left;omega));refine zr ?_;(focus ((with_reducible apply AOps.index_mapI);(iterate 7 exact rfl);omega;rotate_left;(first|omega|exact Nat.zero_lt_one|(simp;done))));refine j128 ?_;(with_reducible apply AOps.catS);(iterate 5 exact rfl);(first|omega|decide|(simp only[ByteArray.size_append];omega));refine j160 ?_;(with_reducible apply AW.regionQ);exact rfl;exact rfl;kernel_rfl;(with_reducible assumption);refine zm ?_;refine j147 ?_;(focus ((with_reducible apply AOps.index_map);(iterate 7 exact rfl);rotate_left;omega));refine j163 ?_;(focus ((with_reducible apply AOps.index_mapI);(iterate 7 exact rfl);omega;rotate_left;(first|omega|exact Nat.zero_lt_one|(simp;done))));refine zy ?_;refine zr ?_;refine j74 ?_;refine j340 ?_;refine j261 ?_;refine j10 ?_)
    (apply ends_ret;(exact Res.two (.tmp rfl rfl) (.tmp rfl rfl));(refine Le.tupL ?_;refine LeL.cons ?_ ?_;refine Le.litI ?_;(rfl);refine LeL.cons ?_ ?_;refine Le.litI ?_;(rfl);exact LeL.nil))
   rw[if_neg (by omega)] at hT
   have hbk:=h5.each _ (List.getElem_mem hka)
   have hsk:=sumQ hka
   have htk2:=h5.sm.take ks[0].toNat
   have hfi:=first34_fn at' st ks[0].toNat h5 hka
   rw[show((ks[0].toNat:Nat):Int)=ks[0] by omega] at hfi
   have hpw:=powI 0 (by omega)
   have hm1:=mul_rng hr0 hr1 hn0 hsum hpw.1
   have hsn:=sum_nn (l:=at'.take ks[0].toNat) fun y hy=>h5.nn y (List.mem_of_mem_take hy)
   have hsn2:=take_mono h5.nn (show ks[0].toNat+1≤at'.length by omega)
   rw[List.take_length] at hsn2
   (refine j245 ?_;refine j133 ?_;refine zo ?_;(with_reducible apply AW.regionQ);exact rfl;exact rfl;kernel_rfl;(with_reducible assumption);refine j287 ?_;refine zm ?_;(focus ((with_reducible apply AOps.index_map);(iterate 7 exact rfl);rotate_left;omega));refine zr ?_;(focus ((with_reducible apply AOps.index_mapI);(iterate 7 exact rfl);omega;rotate_left;(first|omega|exact Nat.zero_lt_one|(simp;done))));refine j128 ?_;(with_reducible apply AOps.catS);(iterate 5 exact rfl);(first|omega|decide|(simp only[ByteArray.size_append];omega));refine j160 ?_;(with_reducible apply AW.regionQ);exact rfl;exact rfl;kernel_rfl;(with_reducible assumption);refine zm ?_;refine j147 ?_;(focus ((with_reducible apply AOps.index_map);(iterate 7 exact rfl);rotate_left;omega));refine j163 ?_;(focus ((with_reducible apply AOps.index_mapI);(iterate 7 exact rfl);omega;rotate_left;(first|omega|exact Nat.zero_lt_one|(simp;done))));refine zy ?_;refine zr ?_;refine j74 ?_;refine j166 ?_;refine zo ?_;(with_reducible apply AW.regionQ);exact rfl;exact rfl;kernel_rfl;(with_reducible assumption);refine zm ?_;refine j27 ?_;refine zA (hat) ?_;refine AOps.mul rfl rfl rfl rfl rfl (by omega) ?_;refine j27 ?_;refine j57 ?_;refine zm ?_;(focus ((with_reducible apply AOps.index_map);(iterate 7 exact rfl);rotate_left;omega));refine zr ?_;refine zA (hfi) ?_;refine zj ?_;refine j348 ?_;refine j372 ?_;refine j158 ?_)
   exact⟨(0+1,rank*at'.sum+(at'.take ks[0].toNat).sum+v,e),⟨by omega,by omega,by omega,by show 0≤rank*at'.sum+(at'.take ks[0].toNat).sum+v;omega,by show rank*at'.sum+(at'.take ks[0].toNat).sum+v≤100*20 ^ (0+1);have:=hpw.2;omega,by rw[hT,show(!decide (0+1=0))=true by simp]⟩,by show ks.length - (0+1)<ks.length - 0;omega,weak rfl (by(refine⟨.intE (by first|with_reducible rfl|(rfl)),?_⟩;(iterate 2 refine⟨.intE (by first|with_reducible rfl|(rfl)),?_⟩);(iterate 4 refine⟨.eq rfl rfl,?_⟩);refine⟨.strE (by first|with_reducible rfl|(rfl)),?_⟩;exact trivial)) (by(refine⟨.box _ rfl ?_,?_⟩;refine⟨.strE (by first|with_reducible rfl|(rfl)),?_⟩;refine⟨.pvE (by first|with_reducible rfl|(rfl)),?_⟩;refine⟨.boolE (by first|with_reducible rfl|(rfl)),?_⟩;exact trivial;refine⟨.box _ rfl ?_,?_⟩;refine⟨.pvE (by first|with_reducible rfl|(rfl)),?_⟩;refine⟨.intE (by first|with_reducible rfl|(rfl)),?_⟩;exact trivial;refine⟨.box _ rfl ?_,?_⟩;(iterate 2 refine⟨.pvE (by first|with_reducible rfl|(rfl)),?_⟩);(iterate 2 refine⟨.eq rfl rfl,?_⟩);(iterate 2 exact trivial))) rfl⟩
  ·have e0:(if (!decide (i=0))=true then eatI s a [45,62] else a)=eatI s a [45,62]:=by simp [hi0]
   rw[e0] at hT
   have hea:=eat_fn s [45,62] a hs (by simp) (by omega)
   have hra:=eat_rng s [45,62] a
   rw[word_a] at hea
   generalize eatI s a [45,62]=a1 at hea hra hT
   have hnum:=number34_fn s (eatI s a1 (sL so[ks[i].toNat].1++ [36])) hs (by have:=(eat_rng s (sL so[ks[i].toNat].1++ [36]) a1);omega)
   have heat:=eat_fn s (sL so[ks[i].toNat].1++ [36]) a1 hs (by rw[List.length_append,mk_len];simp;omega) (by omega)
   rw[← word_n] at heat
   obtain⟨⟨n1,n2⟩,n3,n4,n5⟩:=num_rng s (eatI s a1 (sL so[ks[i].toNat].1++ [36]))
   generalize eatI s a1 (sL so[ks[i].toNat].1++ [36])=a2 at hnum heat hT n1 n2 n3 n4 n5
   generalize numI s a2=q at hnum hT n1 n2 n3 n4 n5
   obtain⟨v,e⟩:=q
   simp only at hnum hT n1 n2 n3 n4 n5
   by_cases c1:e<0
   ·rw[if_pos (.inl c1)] at hT
    rw[hT]
    (refine j352 ?_;(with_reducible apply AW.regionQ);exact rfl;exact rfl;kernel_rfl;(with_reducible assumption);refine j287 ?_;refine zm ?_;(focus ((with_reducible apply AOps.index_map);(iterate 7 exact rfl);rotate_left;omega));refine zr ?_;(focus ((with_reducible apply AOps.index_mapI);(iterate 7 exact rfl);omega;rotate_left;(first|omega|exact Nat.zero_lt_one|(simp;done))));refine j128 ?_;(with_reducible apply AOps.catS);(iterate 5 exact rfl);(first|omega|decide|(simp only[ByteArray.size_append];omega));refine j160 ?_;(with_reducible apply AW.regionQ);exact rfl;exact rfl;kernel_rfl;(with_reducible assumption);refine zm ?_;refine j355 ?_)
    (apply ends_ret;(exact Res.two (.tmp rfl rfl) (.tmp rfl rfl));(refine Le.tupL ?_;refine LeL.cons ?_ ?_;refine Le.litI ?_;(rfl);refine LeL.cons ?_ ?_;refine Le.litI ?_;(rfl);exact LeL.nil))
   by_cases c2:at'[ks[i].toNat]≤v
   ·rw[if_pos (.inr c2)] at hT
    rw[hT]
    (refine j352 ?_;(with_reducible apply AW.regionQ);exact rfl;exact rfl;kernel_rfl;(with_reducible assumption);refine j287 ?_;refine zm ?_;(focus ((with_reducible apply AOps.index_map);(iterate 7 exact rfl);rotate_left;omega));refine zr ?_;(focus ((with_reducible apply AOps.index_mapI);(iterate 7 exact rfl);omega;rotate_left;(first|omega|exact Nat.zero_lt_one|(simp;done))));refine j128 ?_;(with_reducible apply AOps.catS);(iterate 5 exact rfl);(first|omega|decide|(simp only[ByteArray.size_append];omega));refine j160 ?_;(with_reducible apply AW.regionQ);exact rfl;exact rfl;kernel_rfl;(with_reducible assumption);refine zm ?_;refine j147 ?_;(focus ((with_reducible apply AOps.index_map);(iterate 7 exact rfl);rotate_left;omega));refine j163 ?_;(focus ((with_reducible apply AOps.index_mapI);(iterate 7 exact rfl);omega;rotate_left;(first|omega|exact Nat.zero_lt_one|(simp;done))));refine zy ?_;refine zr ?_;refine j74 ?_;refine j340 ?_;refine j261 ?_;refine j10 ?_)
    (apply ends_ret;(exact Res.two (.tmp rfl rfl) (.tmp rfl rfl));(refine Le.tupL ?_;refine LeL.cons ?_ ?_;refine Le.litI ?_;(rfl);refine LeL.cons ?_ ?_;refine Le.litI ?_;(rfl);exact LeL.nil))
   rw[if_neg (by omega)] at hT
   have hbk:=h5.each _ (List.getElem_mem hka)
   have hsk:=sumQ hka
   have htk2:=h5.sm.take ks[i].toNat
   have hfi:=first34_fn at' st ks[i].toNat h5 hka
   rw[show((ks[i].toNat:Nat):Int)=ks[i] by omega] at hfi
   have hpw:=powI i (by omega)
   have hm1:=mul_rng hr0 hr1 hn0 hsum hpw.1
   have hsn:=sum_nn (l:=at'.take ks[i].toNat) fun y hy=>h5.nn y (List.mem_of_mem_take hy)
   have hsn2:=take_mono h5.nn (show ks[i].toNat+1≤at'.length by omega)
   rw[List.take_length] at hsn2
   (refine j352 ?_;(with_reducible apply AW.regionQ);exact rfl;exact rfl;kernel_rfl;(with_reducible assumption);refine j287 ?_;refine zm ?_;(focus ((with_reducible apply AOps.index_map);(iterate 7 exact rfl);rotate_left;omega));refine zr ?_;(focus ((with_reducible apply AOps.index_mapI);(iterate 7 exact rfl);omega;rotate_left;(first|omega|exact Nat.zero_lt_one|(simp;done))));refine j128 ?_;(with_reducible apply AOps.catS);(iterate 5 exact rfl);(first|omega|decide|(simp only[ByteArray.size_append];omega));refine j160 ?_;(with_reducible apply AW.regionQ);exact rfl;exact rfl;kernel_rfl;(with_reducible assumption);refine zm ?_;refine j147 ?_;(focus ((with_reducible apply AOps.index_map);(iterate 7 exact rfl);rotate_left;omega));refine j163 ?_;(focus ((with_reducible apply AOps.index_mapI);(iterate 7 exact rfl);omega;rotate_left;(first|omega|exact Nat.zero_lt_one|(simp;done))));refine zy ?_;refine zr ?_;refine j74 ?_;refine j166 ?_;refine zo ?_;(with_reducible apply AW.regionQ);exact rfl;exact rfl;kernel_rfl;(with_reducible assumption);refine zm ?_;refine j27 ?_;refine zA (hat) ?_;refine AOps.mul rfl rfl rfl rfl rfl (by omega) ?_;refine j27 ?_;refine j57 ?_;refine zm ?_;(focus ((with_reducible apply AOps.index_map);(iterate 7 exact rfl);rotate_left;omega));refine zr ?_;refine zA (hfi) ?_;refine zj ?_;refine j348 ?_;refine j372 ?_;refine j158 ?_)
   exact⟨(i+1,rank*at'.sum+(at'.take ks[i].toNat).sum+v,e),⟨by omega,by omega,by omega,by show 0≤rank*at'.sum+(at'.take ks[i].toNat).sum+v;omega,by show rank*at'.sum+(at'.take ks[i].toNat).sum+v≤100*20 ^ (i+1);have:=hpw.2;omega,by rw[hT,show(!decide (i+1=0))=true by simp]⟩,by show ks.length - (i+1)<ks.length - i;omega,weak rfl (by(refine⟨.intE (by first|with_reducible rfl|(rfl)),?_⟩;(iterate 2 refine⟨.intE (by first|with_reducible rfl|(rfl)),?_⟩);(iterate 4 refine⟨.eq rfl rfl,?_⟩);refine⟨.strE (by first|with_reducible rfl|(rfl)),?_⟩;exact trivial)) (by(refine⟨.box _ rfl ?_,?_⟩;refine⟨.strE (by first|with_reducible rfl|(rfl)),?_⟩;refine⟨.pvE (by first|with_reducible rfl|(rfl)),?_⟩;refine⟨.boolE (by first|with_reducible rfl|(rfl)),?_⟩;exact trivial;refine⟨.box _ rfl ?_,?_⟩;refine⟨.pvE (by first|with_reducible rfl|(rfl)),?_⟩;refine⟨.intE (by first|with_reducible rfl|(rfl)),?_⟩;exact trivial;refine⟨.box _ rfl ?_,?_⟩;(iterate 2 refine⟨.pvE (by first|with_reducible rfl|(rfl)),?_⟩);(iterate 2 refine⟨.eq rfl rfl,?_⟩);(iterate 2 exact trivial))) rfl⟩
 ·obtain rfl:i=ks.length:=by omega
  rw[List.drop_length,tupI_0] at hT
  rw[hT]
  (refine j26 ?_;refine j57 ?_;refine j156 ?_;(iterate 2 refine zm ?_);refine j194 ?_)
  (apply ends_ret;(exact Res.two (.tmp rfl rfl) (.tmp rfl rfl));(refine Le.tupL ?_;refine LeL.cons ?_ ?_;refine Le.litI ?_;(rfl);refine LeL.cons ?_ ?_;refine Le.litI ?_;(rfl);exact LeL.nil))
end Go.Ab
/- Chapter 34's reference:a field's line read by places,walked. -/
namespace Go.Ab
open Go Go.Proofs
open Nat (reduceAdd reduceSub)
set_option maxRecDepth 20000
set_option maxHeartbeats 4000000
theorem tup_neg (s:Bt) (so:List SortM) (at':List Int) (ks:List Int) (b:Bool) (rank a:Int) (h:a<0):(tupI s so at' ks b rank a).2<0:=by
 cases ks with
 |nil=>exact h
 |cons k ks=>
  rw[tupI_c]
  obtain⟨f1,f2,f3⟩:=eat_rng s [45,62] a
  have g2:(if b=true then eatI s a [45,62] else a)<0:=by
   cases b with
   |false=>simpa using h
   |true=>
    rw[if_pos rfl]
    omega
  generalize (if b=true then eatI s a [45,62] else a)=a1 at g2 ⊢
  obtain⟨e1,e2,e3⟩:=eat_rng s (sL (so.getD k.toNat (⟨#[]⟩,false)).1++ [36]) a1
  generalize eatI s a1 (sL (so.getD k.toNat (⟨#[]⟩,false)).1++ [36])=a2 at e1 e2 e3 ⊢
  obtain⟨⟨n1,n2⟩,n3,n4,n5⟩:=num_rng s a2
  rw[if_pos (.inl (by omega))]
  simp
theorem left_0 (s:Bt) (a:Int) (h:0≤a):leftF s [] a=2*(s.length - a.toNat)+1+1:=by unfold leftF;rw[if_neg (by omega)];rfl
theorem left_s (s:Bt) {ts:List Int} (ht:ts≠ []) (a:Int) (h:0≤a):leftF s ts a=2*(s.length - a.toNat)+1:=by unfold leftF;rw[if_neg (by omega),if_neg ht]
theorem left_n (s:Bt) (ts:List Int) (a:Int) (h:a<0):leftF s ts a=0:=by unfold leftF;rw[if_pos h]
theorem left_le (s:Bt) (a:Int):leftF s [] a<2*s.length+4:=by
 unfold leftF
 split
 ·omega
 ·rw[if_pos rfl];omega
attribute [local irreducible] AW AOps thenD inBlockD AR iterEnds roundEndsN inlEnds noGotoD EndsX EndsP byteAt mkS eatI numI tupI fieldI leftF
theorem readField_fn (sp:SpecM) (f:FieldM) (at':List Int) (st a:Int) (s:Bt) (h5:Ok5 at') (hl:sp.sorts.length=at'.length) (hin:insB sp.sorts.length f.sorts=true) (hks:f.sorts.length≤10) (hz:∀q∈sp.sorts,q.1.size≤16) (hfz:f.name.size≤16) (hs:s.length≤1000000) (ha: -1≤a∧a≤(s.length:Int)):Fn Tryz.prog 30 [spc sp,scp at' st,fld f,litS (mkS s),litI a] (.tup [relA (lineI s sp.sorts at' f a).1,litI (lineI s sp.sorts at' f a).2]):=by
 have hrt:=fun a (ha: -1≤a∧a≤(s.length:Int))=>readTuple_fn sp f at' st a s h5 hl hin hks hz (by omega) ha
 have hE:∀a:Int,-1≤a∧a≤(s.length:Int)→Fn Tryz.prog 28 [litS (mkS s),litI a,litS ⟨#[125,10]⟩] (litI (eatI s a [125,10])):=fun a ha=>by
  rw[← word_e]
  exact eat_fn s [125,10] a (by omega) (by simp) (by omega)
 have heat:=eat_fn s (sL f.name++ [32,61,32,123]) a (by omega) (by rw[List.length_append,mk_len];simp;omega) (by omega)
 rw[← word_f] at heat
 unfold lineI
 simp only
 obtain⟨so,fs,p_,q_⟩:=sp
 obtain⟨nm_,ks,var_⟩:=f
 simp only at hl hin hks hz hfz hrt heat ⊢
 have hsz:=mk_size s
 have x4:(ByteArray.mk #[32,61,32,123]).size=4:=rfl
 have hA:=eat_rng s (sL nm_++ [32,61,32,123]) a
 generalize eatI s a (sL nm_++ [32,61,32,123])=A0 at heat hA ⊢
 have hE0:=hE A0 ⟨hA.1,hA.2.1⟩
 have hlf:=left_le s A0
 obtain⟨N,hN⟩:∃N,N=2*s.length+4:=⟨_,rfl⟩
 rw[← hN] at hlf ⊢
 generalize hT0:fieldI s so at' ks N [] A0=T
 refine Fn.enter (n:=69) Tryz.func30 rfl rfl rfl rfl rfl (by decide) fun g hro_ hwt_=>?_;(try refine nz ?_)
 (refine zq ?_;refine j5 ?_;refine j40 ?_;refine j21 ?_;refine j58 ?_;refine j57 ?_;refine zn ?_;refine AOps.buildN 54 [0] rfl rfl rfl rfl rfl rfl rfl rfl rfl ?_;refine nz ?_;refine j21 ?_;refine j155 ?_;refine j180 ?_;(iterate 2 refine zm ?_);refine AOps.fieldAddrN 52 0 0 rfl rfl rfl rfl ?_;refine zb ?_;(with_reducible apply AOps.catS);(iterate 5 exact rfl);(first|omega|decide|(simp only[ByteArray.size_append];omega));refine zA (heat) ?_;refine j58 ?_;(iterate 2 refine zm ?_);refine zA (hE0) ?_;refine j3 ?_;refine zo ?_;refine AW.block ?_)
 (refine nz ?_;apply AW.loopR [12,11,10,7,6,5,2,3] [3,2,1,0] (fun p:Nat×List Int×Int=>([(4,litI p.2.2),(13,litI (eatI s p.2.2 [125,10]))]:List (Nat×AV))) (fun p:Nat×List Int×Int=>([(4,some (.box [litI ks.length,.own 5 3 1 (p.2.1.map encI)])),(5,some .row)]:List (Nat×Option Ob))) (fun p:Nat×List Int×Int=>T=fieldI s so at' ks p.1 p.2.1 p.2.2∧(-1≤p.2.2∧p.2.2≤(s.length:Int))∧leftF s p.2.1 p.2.2<p.1∧p.2.1.length+p.1=N) (fun p:Nat×List Int×Int=>p.1) ((N,[],A0));(conv=>lhs;simp only[Nf.lpR,Nf.all,Nat.reduceBEq,reduceAdd,reduceSub]);(all_goals skip))
 ·exact⟨hT0.symm,⟨hA.1,hA.2.1⟩,hlf,by simp⟩
 ·exact weak rfl (by(refine⟨.intE (by first|with_reducible rfl|(rfl)),?_⟩;refine⟨.intE (by first|with_reducible rfl|(rfl)),?_⟩;refine⟨.eq rfl rfl,?_⟩;refine⟨.intE (by first|with_reducible rfl|(rfl)),?_⟩;(iterate 5 refine⟨.eq rfl rfl,?_⟩);refine⟨.strE (by first|with_reducible rfl|(rfl)),?_⟩;exact trivial)) (by(refine⟨.box _ rfl ?_,?_⟩;refine⟨.intE (by first|with_reducible rfl|(rfl)),?_⟩;refine⟨.nilown _ _ _ rfl rfl,?_⟩;exact trivial;refine⟨.newrow rfl,?_⟩;refine⟨.box _ rfl ?_,?_⟩;refine⟨.intE (by first|with_reducible rfl|(rfl)),?_⟩;refine⟨.eq rfl rfl,?_⟩;exact trivial;refine⟨.box _ rfl ?_,?_⟩;refine⟨.strE (by first|with_reducible rfl|(rfl)),?_⟩;refine⟨.pvE (by first|with_reducible rfl|(rfl)),?_⟩;refine⟨.boolE (by first|with_reducible rfl|(rfl)),?_⟩;exact trivial;refine⟨.box _ rfl ?_,?_⟩;refine⟨.pvE (by first|with_reducible rfl|(rfl)),?_⟩;refine⟨.intE (by first|with_reducible rfl|(rfl)),?_⟩;exact trivial;refine⟨.box _ rfl ?_,?_⟩;(iterate 2 refine⟨.pvE (by first|with_reducible rfl|(rfl)),?_⟩);(iterate 2 refine⟨.eq rfl rfl,?_⟩);(iterate 2 exact trivial))) rfl
 rintro⟨n,ts,a⟩ ⟨hT,ha,hlt,hn⟩
 simp only at hT ha hlt hn ⊢
 obtain⟨n,rfl⟩:∃k,n=k+1:=⟨n - 1,by omega⟩
 rw[fieldI_s] at hT
 clear hE0 heat hT0 hlf
 have hea:=eat_rng s [125,10] a
 generalize hee:eatI s a [125,10]=ee at hT hea
 by_cases c1:ee<0
 ·by_cases c2:0≤a
  ·by_cases c3:a<(s.length:Int)
   ·rw[if_pos ⟨c1,c2,c3⟩] at hT
    by_cases ht:ts=[]
    ·subst ht
     rw[if_pos rfl,List.nil_append] at hT
     rw[left_0 s a c2] at hlt
     have h1:=hrt a ha
     have h2:=tup_rng s so at' ks false 0 a ha.1 ha.2
     generalize tupI s so at' ks false 0 a=q at hT h1 h2
     obtain⟨rk,e⟩:=q
     simp only at hT h1 h2
     have h3:=hE e ⟨h2.1,h2.2.1⟩
     have hl0:([]:List Int).length=0:=rfl
     have hlf:leftF s [rk] e<n:=by
      by_cases he:e<0
      ·rw[left_n s _ e he];omega
      ·rw[left_s s (by simp) e (by omega)]
       have:=h2.2.2
       have:a≤e:=by
        rcases this with h|h
        ·omega
        ·split at h<;>omega
       omega
     (refine j26 ?_;refine j200 ?_;refine j41 ?_;refine zm ?_;refine j304 ?_;refine j133 ?_;refine j2 ?_;refine j137 ?_;refine j27 ?_;(iterate 2 refine zm ?_);refine zA (h1) ?_;refine j31 ?_;refine j101 ?_;refine j2 ?_;refine j83 ?_;refine zm ?_;refine j81 ?_;(with_reducible apply AOps.appendS);exact rfl;(first|exact .pv rfl|exact .own rfl|exact .nil rfl);(iterate 9 exact rfl);(first|omega|(simp only[List.length_map,List.length_append,List.length_cons,List.length_nil,List.length_drop,List.length_take,List.length_set,List.length_range,chunk_len];omega));refine nz ?_;refine j289 ?_;refine j180 ?_;refine zm ?_;refine j3 ?_;refine j214 ?_;refine zA (h3) ?_;refine j323 ?_;refine j266 ?_)
     exact⟨(n,[rk],e),⟨hT,⟨h2.1,h2.2.1⟩,hlf,by simp at hn ⊢;omega⟩,Nat.lt_succ_self n,weak rfl (by(refine⟨.intE (by first|with_reducible rfl|(rfl)),?_⟩;refine⟨.intE (by first|with_reducible rfl|(rfl)),?_⟩;refine⟨.eq rfl rfl,?_⟩;refine⟨.intE (by first|with_reducible rfl|(rfl)),?_⟩;(iterate 5 refine⟨.eq rfl rfl,?_⟩);refine⟨.strE (by first|with_reducible rfl|(rfl)),?_⟩;exact trivial)) (by(refine⟨.box _ rfl ?_,?_⟩;refine⟨.intE (by first|with_reducible rfl|(rfl)),?_⟩;refine⟨.ownE (by first|with_reducible rfl|(rfl)) rfl,?_⟩;exact trivial;refine⟨.row rfl,?_⟩;refine⟨.box _ rfl ?_,?_⟩;refine⟨.intE (by first|with_reducible rfl|(rfl)),?_⟩;refine⟨.eq rfl rfl,?_⟩;exact trivial;refine⟨.box _ rfl ?_,?_⟩;refine⟨.strE (by first|with_reducible rfl|(rfl)),?_⟩;refine⟨.pvE (by first|with_reducible rfl|(rfl)),?_⟩;refine⟨.boolE (by first|with_reducible rfl|(rfl)),?_⟩;exact trivial;refine⟨.box _ rfl ?_,?_⟩;refine⟨.pvE (by first|with_reducible rfl|(rfl)),?_⟩;refine⟨.intE (by first|with_reducible rfl|(rfl)),?_⟩;exact trivial;refine⟨.box _ rfl ?_,?_⟩;(iterate 2 refine⟨.pvE (by first|with_reducible rfl|(rfl)),?_⟩);(iterate 2 refine⟨.eq rfl rfl,?_⟩);(iterate 2 exact trivial))) rfl⟩
    ·rw[if_neg ht] at hT
     rw[left_s s ht a c2] at hlt
     have hc:=eat_fn s [44,32] a (by omega) (by simp) (by omega)
     rw[word_c] at hc
     have hcr:=eat_rng s [44,32] a
     generalize eatI s a [44,32]=a1 at hT hc hcr
     have h1:=hrt a1 ⟨hcr.1,hcr.2.1⟩
     have h2:=tup_rng s so at' ks false 0 a1 hcr.1 hcr.2.1
     have h2n:=fun h=>tup_neg s so at' ks false 0 a1 h
     generalize tupI s so at' ks false 0 a1=q at hT h1 h2 h2n
     obtain⟨rk,e⟩:=q
     simp only at hT h1 h2 h2n
     have h3:=hE e ⟨h2.1,h2.2.1⟩
     have htl:0<ts.length:=List.length_pos_iff.2 ht
     have hcl:[(44:UInt8),32].length=2:=rfl
     have hlf:leftF s (ts++ [rk]) e<n:=by
      by_cases he:e<0
      ·rw[left_n s _ e he];omega
      ·rw[left_s s (by simp) e (by omega)]
       have h4:0≤a1:=by
        rcases Int.lt_or_le a1 0 with h|h
        ·exact absurd (h2n h) he
        ·exact h
       have h6:a1≤e:=by
        rcases h2.2.2 with h|h
        ·omega
        ·split at h<;>omega
       omega
     (refine j26 ?_;refine j200 ?_;refine j41 ?_;refine zm ?_;refine j304 ?_;refine zc ?_;refine j214 ?_;refine zA (hc) ?_;refine j58 ?_;refine j137 ?_;refine j27 ?_;(iterate 2 refine zm ?_);refine zA (h1) ?_;refine j31 ?_;refine j101 ?_;refine j2 ?_;refine j83 ?_;refine zm ?_;refine j81 ?_;(with_reducible apply AOps.appendS);exact rfl;(first|exact .pv rfl|exact .own rfl|exact .nil rfl);(iterate 9 exact rfl);(first|omega|(simp only[List.length_map,List.length_append,List.length_cons,List.length_nil,List.length_drop,List.length_take,List.length_set,List.length_range,chunk_len];omega));refine nz ?_;refine j289 ?_;refine j180 ?_;refine zm ?_;refine j3 ?_;refine j214 ?_;refine zA (h3) ?_;refine j323 ?_;refine j266 ?_)
     exact⟨(n,ts++ [rk],e),⟨hT,⟨h2.1,h2.2.1⟩,hlf,by simp;omega⟩,Nat.lt_succ_self n,weak rfl (by(refine⟨.intE (by first|rfl|(rw[List.map_append];rfl)),?_⟩;refine⟨.intE (by first|rfl|(rw[List.map_append];rfl)),?_⟩;refine⟨.eq rfl rfl,?_⟩;refine⟨.intE (by first|rfl|(rw[List.map_append];rfl)),?_⟩;(iterate 5 refine⟨.eq rfl rfl,?_⟩);refine⟨.strE (by first|rfl|(rw[List.map_append];rfl)),?_⟩;exact trivial)) (by(refine⟨.box _ rfl ?_,?_⟩;refine⟨.intE (by first|rfl|(rw[List.map_append];rfl)),?_⟩;refine⟨.ownE (by first|rfl|(rw[List.map_append];rfl)) rfl,?_⟩;exact trivial;refine⟨.row rfl,?_⟩;refine⟨.box _ rfl ?_,?_⟩;refine⟨.intE (by first|rfl|(rw[List.map_append];rfl)),?_⟩;refine⟨.eq rfl rfl,?_⟩;exact trivial;refine⟨.box _ rfl ?_,?_⟩;refine⟨.strE (by first|rfl|(rw[List.map_append];rfl)),?_⟩;refine⟨.pvE (by first|rfl|(rw[List.map_append];rfl)),?_⟩;refine⟨.boolE (by first|rfl|(rw[List.map_append];rfl)),?_⟩;exact trivial;refine⟨.box _ rfl ?_,?_⟩;refine⟨.pvE (by first|rfl|(rw[List.map_append];rfl)),?_⟩;refine⟨.intE (by first|rfl|(rw[List.map_append];rfl)),?_⟩;exact trivial;refine⟨.box _ rfl ?_,?_⟩;refine⟨.pvE (by first|rfl|(rw[List.map_append];rfl)),?_⟩;refine⟨.pvE (by first|rfl|(rw[List.map_append];rfl)),?_⟩;(iterate 2 refine⟨.eq rfl rfl,?_⟩);(iterate 2 exact trivial))) rfl⟩
   ·rw[if_neg (by omega)] at hT
    rw[hT]
    (refine j26 ?_;refine j200 ?_;refine j41 ?_;refine zm ?_;refine zt ?_;refine AOps.len_str rfl rfl rfl rfl ?_;refine zt ?_;refine zs ?_;refine zT ?_;refine zd ?_;refine j104 ?_;refine j27 ?_;refine zm ?_;refine j155 ?_;refine j11 ?_)
    (apply ends_ret;(exact Res.two (.cell rfl rfl rfl rfl) (.tmp rfl rfl));(refine Le.tupL ?_;refine LeL.cons ?_ ?_;refine Le.aggL ?_;refine LeL.cons ?_ ?_;(with_reducible exact Le.pv _);refine LeL.cons ?_ ?_;exact Le.own _ _ _ _ rfl;exact LeL.nil;refine LeL.cons ?_ ?_;refine Le.litI ?_;(rfl);exact LeL.nil))
  ·rw[if_neg (by omega)] at hT
   rw[hT]
   (refine j26 ?_;refine j200 ?_;refine zm ?_;(iterate 4 refine AOps.guardTn rfl rfl rfl rfl rfl rfl (by with_reducible assumption) ?_);refine zF ?_;refine zd ?_;refine j44 ?_;refine j324 ?_;refine zm ?_;refine j155 ?_;refine j11 ?_)
   (apply ends_ret;(exact Res.two (.cell rfl rfl rfl rfl) (.tmp rfl rfl));(refine Le.tupL ?_;refine LeL.cons ?_ ?_;refine Le.aggL ?_;refine LeL.cons ?_ ?_;(with_reducible exact Le.pv _);refine LeL.cons ?_ ?_;exact Le.own _ _ _ _ rfl;exact LeL.nil;refine LeL.cons ?_ ?_;refine Le.litI ?_;(rfl);exact LeL.nil))
 ·rw[if_neg (by omega)] at hT
  rw[hT]
  (refine j26 ?_;refine j353 ?_;(iterate 2 refine AOps.guardTn rfl rfl rfl rfl rfl rfl (by with_reducible assumption) ?_);refine zF ?_;refine zm ?_;refine j134 ?_;refine j127 ?_;refine j44 ?_;refine j324 ?_;refine zm ?_;refine j155 ?_;refine j11 ?_)
  (apply ends_ret;(exact Res.two (.cell rfl rfl rfl rfl) (.tmp rfl rfl));(refine Le.tupL ?_;refine LeL.cons ?_ ?_;refine Le.aggL ?_;refine LeL.cons ?_ ?_;(with_reducible exact Le.pv _);refine LeL.cons ?_ ?_;exact Le.own _ _ _ _ rfl;exact LeL.nil;refine LeL.cons ?_ ?_;refine Le.litI ?_;(rfl);exact LeL.nil))
end Go.Ab
/- Chapter 34's reference:the first line read by places,walked. -/
namespace Go.Ab
open Go Go.Proofs
open Nat (reduceAdd reduceSub)
set_option maxRecDepth 20000
set_option maxHeartbeats 4000000
theorem atomsI_c (s:Bt) (q:SortM) (so:List SortM) (acc:List Int) (a:Int):atomsI s (q::so) acc a=atomsI s so (acc++ [(numI s (eatI s a (srtWord q))).1]) (numI s (eatI s a (srtWord q))).2:=rfl
theorem atomsI_0 (s:Bt) (acc:List Int) (a:Int):atomsI s [] acc a=(acc,a):=rfl
theorem word_s (q:SortM):(⟨#[32]⟩:ByteArray)++q.1++⟨#[61]⟩=mkS (srtWord q):=by apply mk_of;rw[sL_app,sL_app,List.append_assoc];rfl
theorem word_0:mkS [115,99,111,112,101]=⟨#[115,99,111,112,101]⟩:=rfl
theorem word_1:mkS [32,115,116,101,112,115,61]=⟨#[32,115,116,101,112,115,61]⟩:=rfl
theorem word_2:mkS [32,108,111,111,112,61]=⟨#[32,108,111,111,112,61]⟩:=rfl
theorem word_3:mkS [10]=⟨#[10]⟩:=rfl
theorem srtW_len (q:SortM):(srtWord q).length=q.1.size+2:=by
 unfold srtWord
 rw[List.length_append,List.length_append,mk_len];simp;omega
attribute [local irreducible] AW AOps thenD inBlockD AR iterEnds roundEndsN inlEnds noGotoD EndsX EndsP byteAt mkS eatI numI atomsI
theorem readHead_fn (sp:SpecM) (s:Bt) (hso:sp.sorts.length≤10) (hz:∀q∈sp.sorts,q.1.size≤16) (hs:s.length≤1000000):Fn Tryz.prog 25 [spc sp,litS (mkS s)] (.tup [.agg [.pv (ints (headI sp.sorts s).atoms),litI (headI sp.sorts s).st,.pv (.lit (.slice none 0 0)),litI (headI sp.sorts s).lp],litI (headI sp.sorts s).a]):=by
 have hN:=fun(a:Int) (ha: -1≤a∧a≤(s.length:Int))=>number34_fn s a (by omega) (by omega)
 have hE:=fun(w:Bt) (hw:w.length≤1000) (a:Int) (ha: -1≤a∧a≤(s.length:Int))=>eat_fn s w a (by omega) (by omega) (by omega)
 have heR:=eat_rng s
 have hnR:=num_rng s
 obtain⟨so,fs,p_,q_⟩:=sp
 simp only at hso hz ⊢
 have hsz:=mk_size s
 have x1:(ByteArray.mk #[32]).size=1:=rfl
 have x2:(ByteArray.mk #[61]).size=1:=rfl
 unfold headI
 simp only
 have hE0:=hE [115,99,111,112,101] (by simp) 0 (by omega)
 have hA:=heR [115,99,111,112,101] 0
 rw[word_0] at hE0
 generalize eatI s 0 [115,99,111,112,101]=A0 at hE0 hA ⊢
 generalize hH:atomsI s so [] A0=H
 refine Fn.enter (n:=75) Tryz.func25 rfl rfl rfl rfl rfl (by decide) fun g hro_ hwt_=>?_;(try refine nz ?_)
 (refine zq ?_;refine j40 ?_;refine j21 ?_;refine j58 ?_;refine AOps.buildN 33 [] rfl rfl rfl rfl rfl rfl rfl rfl rfl ?_;refine nz ?_;refine j21 ?_;refine j155 ?_;refine j180 ?_;refine zm ?_;refine zA (hE0) ?_;refine j311 ?_)
 (refine nz ?_;apply AW.loopR [6,5,4,2,1] [1,0] (fun p:Nat×List Int×Int=>([(7,litI p.2.2),(8,litI p.1)]:List (Nat×AV))) (fun p:Nat×List Int×Int=>([(2,some (.box [.own 3 3 1 (p.2.1.map encI),litI 0,.pv (.lit (.slice none 0 0)),litI 0])),(3,some .row)]:List (Nat×Option Ob))) (fun p:Nat×List Int×Int=>p.1≤so.length∧p.2.1.length=p.1∧(-1≤p.2.2∧p.2.2≤(s.length:Int))∧H=atomsI s (so.drop p.1) p.2.1 p.2.2) (fun p:Nat×List Int×Int=>so.length - p.1) ((0,[],A0));(conv=>lhs;simp only[Nf.lpR,Nf.all,Nat.reduceBEq,reduceAdd,reduceSub]);(all_goals skip))
 ·exact⟨Nat.zero_le _,rfl,⟨hA.1,hA.2.1⟩,hH.symm⟩
 ·exact weak rfl (by(refine⟨.intE (by first|with_reducible rfl|(rfl)),?_⟩;refine⟨.intE (by first|with_reducible rfl|(rfl)),?_⟩;refine⟨.eq rfl rfl,?_⟩;refine⟨.intE (by first|with_reducible rfl|(rfl)),?_⟩;(iterate 2 refine⟨.eq rfl rfl,?_⟩);refine⟨.strE (by first|with_reducible rfl|(rfl)),?_⟩;exact trivial)) (by(refine⟨.box _ rfl ?_,?_⟩;refine⟨.nilown _ _ _ rfl rfl,?_⟩;refine⟨.intE (by first|with_reducible rfl|(rfl)),?_⟩;refine⟨.eq rfl rfl,?_⟩;refine⟨.intE (by first|with_reducible rfl|(rfl)),?_⟩;exact trivial;refine⟨.newrow rfl,?_⟩;refine⟨.box _ rfl ?_,?_⟩;refine⟨.eq rfl rfl,?_⟩;refine⟨.intE (by first|with_reducible rfl|(rfl)),?_⟩;refine⟨.eq rfl rfl,?_⟩;refine⟨.intE (by first|with_reducible rfl|(rfl)),?_⟩;exact trivial;refine⟨.box _ rfl ?_,?_⟩;(iterate 2 refine⟨.pvE (by first|with_reducible rfl|(rfl)),?_⟩);(iterate 2 refine⟨.eq rfl rfl,?_⟩);(iterate 2 exact trivial))) rfl
 rintro⟨i,acc,a⟩ ⟨hi,hac,ha,hT⟩
 simp only at hi hac ha hT ⊢
 clear hE0 hH
 by_cases hlt:i<so.length
 ·have hzi:=hz _ (List.getElem_mem hlt)
  rw[List.drop_eq_getElem_cons hlt,atomsI_c] at hT
  have h1:=hE (srtWord so[i]) (by rw[srtW_len];omega) a ha
  have h1r:=heR (srtWord so[i]) a
  rw[← word_s] at h1
  generalize eatI s a (srtWord so[i])=a1 at h1 h1r hT
  have h2:=hN a1 ⟨h1r.1,h1r.2.1⟩
  have h2r:=hnR a1
  generalize numI s a1=q at h2 h2r hT
  obtain⟨v,e⟩:=q
  simp only at h2 h2r hT
  (refine j26 ?_;refine j62 ?_;refine j39 ?_;refine j2 ?_;(iterate 3 refine zm ?_);refine j62 ?_;refine zm ?_;(focus ((with_reducible apply AOps.index_map);(iterate 7 exact rfl);rotate_left;omega));refine j128 ?_;(with_reducible apply AOps.catS);(iterate 5 exact rfl);(first|omega|decide|(simp only[ByteArray.size_append];omega));(with_reducible apply AOps.catS);(iterate 5 exact rfl);(first|omega|decide|(simp only[ByteArray.size_append];omega));refine zA (h1) ?_;refine zA (h2) ?_;refine j31 ?_;refine j101 ?_;refine j2 ?_;refine j112 ?_;refine zm ?_;refine j81 ?_;(with_reducible apply AOps.appendS);exact rfl;(first|exact .pv rfl|exact .own rfl|exact .nil rfl);(iterate 9 exact rfl);(first|omega|(simp only[List.length_map,List.length_append,List.length_cons,List.length_nil,List.length_drop,List.length_take,List.length_set,List.length_range,chunk_len];omega));refine nz ?_;refine AOps.fieldAddrN 33 0 0 rfl rfl rfl rfl ?_;refine AOps.fieldAddrN 30 0 0 rfl rfl rfl rfl ?_;refine j188 ?_;refine zd ?_;refine AW.region ?_;refine zm ?_;refine j158 ?_)
  exact⟨(i+1,acc++ [v],e),⟨by omega,by simp;omega,⟨h2r.2.1,h2r.2.2.1⟩,hT⟩,by show so.length - (i+1)<so.length - i;omega,weak rfl (by(refine⟨.intE (by first|rfl|(rw[List.map_append];rfl)),?_⟩;refine⟨.intE (by first|rfl|(rw[List.map_append];rfl)),?_⟩;refine⟨.eq rfl rfl,?_⟩;refine⟨.intE (by first|rfl|(rw[List.map_append];rfl)),?_⟩;(iterate 2 refine⟨.eq rfl rfl,?_⟩);refine⟨.strE (by first|rfl|(rw[List.map_append];rfl)),?_⟩;exact trivial)) (by(refine⟨.box _ rfl ?_,?_⟩;refine⟨.ownE (by first|rfl|(rw[List.map_append];rfl)) rfl,?_⟩;refine⟨.intE (by first|rfl|(rw[List.map_append];rfl)),?_⟩;refine⟨.eq rfl rfl,?_⟩;refine⟨.intE (by first|rfl|(rw[List.map_append];rfl)),?_⟩;exact trivial;refine⟨.row rfl,?_⟩;refine⟨.box _ rfl ?_,?_⟩;refine⟨.eq rfl rfl,?_⟩;refine⟨.intE (by first|rfl|(rw[List.map_append];rfl)),?_⟩;refine⟨.eq rfl rfl,?_⟩;refine⟨.intE (by first|rfl|(rw[List.map_append];rfl)),?_⟩;exact trivial;refine⟨.box _ rfl ?_,?_⟩;refine⟨.pvE (by first|rfl|(rw[List.map_append];rfl)),?_⟩;refine⟨.pvE (by first|rfl|(rw[List.map_append];rfl)),?_⟩;(iterate 2 refine⟨.eq rfl rfl,?_⟩);(iterate 2 exact trivial))) rfl⟩
 ·obtain rfl:i=so.length:=by omega
  rw[List.drop_length,atomsI_0] at hT
  subst hT
  simp only
  have h1:=hE [32,115,116,101,112,115,61] (by simp) a ha
  have h1r:=heR [32,115,116,101,112,115,61] a
  rw[word_1] at h1
  generalize eatI s a [32,115,116,101,112,115,61]=a1 at h1 h1r ⊢
  have h2:=hN a1 ⟨h1r.1,h1r.2.1⟩
  have h2r:=hnR a1
  generalize numI s a1=q at h2 h2r ⊢
  obtain⟨st,a2⟩:=q
  simp only at h2 h2r ⊢
  have h3:=hE [32,108,111,111,112,61] (by simp) a2 ⟨h2r.2.1,h2r.2.2.1⟩
  have h3r:=heR [32,108,111,111,112,61] a2
  rw[word_2] at h3
  generalize eatI s a2 [32,108,111,111,112,61]=a3 at h3 h3r ⊢
  have h4:=hN a3 ⟨h3r.1,h3r.2.1⟩
  have h4r:=hnR a3
  generalize numI s a3=q at h4 h4r ⊢
  obtain⟨lp,a4⟩:=q
  simp only at h4 h4r ⊢
  have h5:=hE [10] (by simp) a4 ⟨h4r.2.1,h4r.2.2.1⟩
  have h5r:=heR [10] a4
  rw[word_3] at h5
  generalize eatI s a4 [10]=a5 at h5 h5r ⊢
  (refine j26 ?_;refine j62 ?_;refine j156 ?_;(iterate 3 refine zm ?_);refine zA (h1) ?_;refine zA (h2) ?_;refine j31 ?_;refine j101 ?_;refine j2 ?_;(iterate 3 refine zm ?_);refine zA (h3) ?_;refine zA (h4) ?_;refine j31 ?_;refine j101 ?_;refine j2 ?_;refine zm ?_;refine j64 ?_;refine j188 ?_;refine j180 ?_;refine zm ?_;refine AOps.fieldAddrN 33 2 3 rfl rfl rfl rfl ?_;refine j188 ?_;refine zd ?_;refine zo ?_;refine AW.frzI 3 rfl ?_;(try refine nz ?_);refine AW.regionM [0,1,2] [4] rfl (by assumption) (by kernel_rfl) (by kernel_rfl) rfl ?_;show AOps .held _ _ _ [_,_,_] _ _;refine j27 ?_;(iterate 2 refine zm ?_);refine j6 ?_;intro k_ hk_;refine j280 ?_;intro g_ hgro_ hw_;refine zA (h5) ?_;refine j6 ?_;refine AR.step1LM (i:=4) rfl (by kernel_rfl) rfl (by kernel_rfl) ?_;intro g_ hgro_ hwt2_;refine j155 ?_;refine j6 ?_;refine j333 ?_;intro g_ hgro_ hwt2_;refine za ?_;refine j96 ?_;refine thenD_n ?_;refine AW.ret ?_)
  (apply ends_ret;(exact Res.two (.cell rfl rfl rfl rfl) (.tmp rfl rfl));(refine Le.tupL ?_;refine LeL.cons ?_ ?_;refine Le.aggL ?_;refine LeL.cons ?_ ?_;(with_reducible exact Le.pv _);refine LeL.cons ?_ ?_;(with_reducible exact Le.pv _);refine LeL.cons ?_ ?_;(with_reducible exact Le.pv _);refine LeL.cons ?_ ?_;(with_reducible exact Le.pv _);exact LeL.nil;refine LeL.cons ?_ ?_;refine Le.litI ?_;(rfl);exact LeL.nil))
end Go.Ab
/- Chapter 34's reference:Parse,walked. -/
namespace Go.Ab
open Go Go.Proofs
open Nat (reduceAdd reduceSub)
set_option maxRecDepth 20000
set_option maxHeartbeats 4000000
theorem linesI_c (s:Bt) (so:List SortM) (at':List Int) (f:FieldM) (fs:List FieldM) (acc:List RelM) (a:Int):linesI s so at' (f::fs) acc a=if a<0 then (acc,a) else linesI s so at' fs (acc++ [(lineI s so at' f a).1]) (lineI s so at' f a).2:=rfl
theorem linesI_0 (s:Bt) (so:List SortM) (at':List Int) (acc:List RelM) (a:Int):linesI s so at' [] acc a=(acc,a):=rfl
theorem statesI_s (s:Bt) (so:List SortM) (at':List Int) (fs:List FieldM) (n:Nat) (i:Int) (acc:List (List RelM)) (a:Int):statesI s so at' fs (n+1) i acc a=statesI s so at' fs n (i+1) (acc++ [(linesI s so at' fs [] (eatI s a (stWord i))).1]) (linesI s so at' fs [] (eatI s a (stWord i))).2:=rfl
theorem statesI_0 (s:Bt) (so:List SortM) (at':List Int) (fs:List FieldM) (i:Int) (acc:List (List RelM)) (a:Int):statesI s so at' fs 0 i acc a=(acc,a):=rfl
theorem word_st (i:Int):(⟨#[115,116,97,116,101,32]⟩:ByteArray)++mkS (digT i)++⟨#[10]⟩=mkS (stWord i):=by apply mk_of;rw[sL_app,sL_app,List.append_assoc];rfl
theorem field_rng (s:Bt) (so:List SortM) (at' ks:List Int):∀(n:Nat) (ts:List Int) (a:Int),-1≤(fieldI s so at' ks n ts a).2∧(fieldI s so at' ks n ts a).2≤(s.length:Int)
 |0,ts,a=>⟨by simp [fieldI],by simp only[fieldI];omega⟩
 |n+1,ts,a=>by
  rw[fieldI_s]
  split
  ·exact field_rng s so at' ks n _ _
  ·have:=eat_rng s [125,10] a
   exact⟨this.1,this.2.1⟩
theorem line_rng (s:Bt) (so:List SortM) (at':List Int) (f:FieldM) (a:Int): -1≤(lineI s so at' f a).2∧(lineI s so at' f a).2≤(s.length:Int):=field_rng s so at' f.sorts _ _ _
attribute [local irreducible] AW AOps thenD inBlockD AR iterEnds roundEndsN inlEnds noGotoD EndsX EndsP byteAt mkS eatI numI lineI linesI statesI rValidB validB headI
theorem parse34_fn (sp:SpecM) (hp:SpP sp) (t:Bt) (ht:t.length≤1000000):Fn Tryz.prog 10 [spc sp,litS (mkS t)] (.tup [mdl (refP sp t).1,litI (refP sp t).2]):=by
 have hso:=hp.so
 have hfs:=hp.fs
 have hz:∀q∈sp.sorts,q.1.size≤16:=fun q hq=>(hp.nm q hq).1
 have hfz:=hp.fz
 have hhd:=readHead_fn sp t hso hz ht
 have hfi:=fits34_fn sp (by omega) (fun f hf=>by have:=(hfz f hf).2;omega)
 have hval:=fun m=>rValid_fn sp m (by omega) (fun f hf=>by have:=(hfz f hf).2;omega)
 have hfm:=fun(m:ModM) (h:validB (fullR m.atoms) sp m=true)=>format34_fn sp m (fmt_q hp h)
 have hsz:=mk_size t
 unfold refP
 simp only
 have hhr:(-1≤(headI sp.sorts t).a∧(headI sp.sorts t).a≤(t.length:Int)):=by
  unfold headI
  simp only
  have:=eat_rng t [10] (numI t (eatI t (numI t (eatI t (atomsI t sp.sorts [] (eatI t 0 [115,99,111,112,101])).2 [32,115,116,101,112,115,61])).2 [32,108,111,111,112,61])).2
  exact⟨this.1,this.2.1⟩
 generalize headI sp.sorts t=H at hhd hhr ⊢
 obtain⟨ats,st,lp,A0⟩:=H
 simp only at hhd hhr ⊢
 have hsc:=rScope_fn sp ats st
 have hrf:=fun(h5:Ok5 ats) (hl:sp.sorts.length=ats.length) (f:FieldM) (hf:f∈sp.fields) (hin:insB sp.sorts.length f.sorts=true) a ha=>readField_fn sp f ats st a t h5 hl hin (hfz f hf).2 hz (hfz f hf).1 ht ha
 have hfit:sortsIn sp.sorts.length sp.fields=true→∀f∈sp.fields,insB sp.sorts.length f.sorts=true:=fun h f hf=>by
  unfold sortsIn at h
  rw[List.all_eq_true] at h
  exact h f hf
 have hveq:=fun m=>valid_eq sp m
 obtain⟨so,fs,p_,q_⟩:=sp
 simp only at hso hfs hz hfz hhd hfi hval hfm hsc hrf hfit hveq ⊢
 by_cases c1:A0<0
 ·rw[if_pos (.inl c1)]
  refine Fn.enter (n:=101) Tryz.func10 rfl rfl rfl rfl rfl (by decide) fun g hro_ hwt_=>?_;(try refine nz ?_)
  (refine j207 ?_;refine zm ?_;refine j110 ?_;refine zT ?_;refine j115 ?_;refine j247 ?_)
  (apply ends_ret;(exact Res.two (.cell rfl rfl rfl rfl) (.tmp rfl rfl));(refine Le.tupL ?_;refine LeL.cons ?_ ?_;refine Le.aggL ?_;refine j182 ?_;refine LeL.cons ?_ ?_;refine Le.litI ?_;(rfl);refine j182 ?_;refine LeL.cons ?_ ?_;refine Le.litI ?_;(rfl);exact LeL.nil;refine LeL.cons ?_ ?_;refine Le.litI ?_;(rfl);exact LeL.nil))
 cases c2:sortsIn so.length fs with
 |false=>
  rw[if_pos (.inr (.inl rfl))]
  rw[c2] at hfi
  refine Fn.enter (n:=101) Tryz.func10 rfl rfl rfl rfl rfl (by decide) fun g hro_ hwt_=>?_;(try refine nz ?_)
  (refine j342 ?_;refine j115 ?_;refine j247 ?_)
  (apply ends_ret;(exact Res.two (.cell rfl rfl rfl rfl) (.tmp rfl rfl));(refine Le.tupL ?_;refine LeL.cons ?_ ?_;refine Le.aggL ?_;refine j182 ?_;refine LeL.cons ?_ ?_;refine Le.litI ?_;(rfl);refine j182 ?_;refine LeL.cons ?_ ?_;refine Le.litI ?_;(rfl);exact LeL.nil;refine LeL.cons ?_ ?_;refine Le.litI ?_;(rfl);exact LeL.nil))
 |true=>
 cases c3:scopeOk so.length ats st with
 |false=>
  rw[if_pos (.inr (.inr rfl))]
  rw[c2] at hfi
  rw[c3] at hsc
  refine Fn.enter (n:=101) Tryz.func10 rfl rfl rfl rfl rfl (by decide) fun g hro_ hwt_=>?_;(try refine nz ?_)
  (refine j342 ?_;refine zm ?_;refine j116 ?_;refine j193 ?_;(with_reducible apply AOps.load_bs);(iterate 3 exact rfl);(repeat' first|exact Sub.nil|apply Sub.take|apply Sub.skip);(iterate 3 exact rfl);refine zl ?_;refine zA (hsc) ?_;refine j262 ?_;refine j127 ?_;refine AW.cond_lt rfl rfl ?_;refine j220 ?_;refine j247 ?_)
  (apply ends_ret;(exact Res.two (.cell rfl rfl rfl rfl) (.tmp rfl rfl));(refine Le.tupL ?_;refine LeL.cons ?_ ?_;refine Le.aggL ?_;refine j182 ?_;refine LeL.cons ?_ ?_;refine Le.litI ?_;(rfl);refine j182 ?_;refine LeL.cons ?_ ?_;refine Le.litI ?_;(rfl);exact LeL.nil;refine LeL.cons ?_ ?_;refine Le.litI ?_;(rfl);exact LeL.nil))
 |true=>
 rw[if_neg (by simp;omega)]
 rw[c2] at hfi
 rw[c3] at hsc
 have h5:=scope5 c3
 obtain⟨k1,k2,k3,k4,k5,k6,k7⟩:=scopeOk_spec c3
 have hfit:=hfit c2
 have hrf:=hrf h5 k2.symm
 generalize hS:statesI t so ats fs st.toNat 0 [] A0=S
 have x1:(ByteArray.mk #[115,116,97,116,101,32]).size=6:=rfl
 have x2:(ByteArray.mk #[10]).size=1:=rfl
 refine Fn.enter (n:=101) Tryz.func10 rfl rfl rfl rfl rfl (by decide) fun g hro_ hwt_=>?_;(try refine nz ?_)
 (refine j342 ?_;refine zm ?_;refine j116 ?_;refine j193 ?_;(with_reducible apply AOps.load_bs);(iterate 3 exact rfl);(repeat' first|exact Sub.nil|apply Sub.take|apply Sub.skip);(iterate 3 exact rfl);refine zl ?_;refine zA (hsc) ?_;refine j262 ?_;refine j127 ?_;refine j133 ?_;refine j130 ?_;refine j92 ?_)
 (refine nz ?_;apply AW.loopR [6,5,4,2,1] [1,0] (fun p:Nat×List (List RelM)×Int=>([(7,litI p.2.2),(8,litI p.1)]:List (Nat×AV))) (fun p:Nat×List (List RelM)×Int=>([(2,some (.box [.pv (ints ats),litI st,.own 21 55 1 (p.2.1.map fun s=>[rels s]),litI lp])),(21,some .row)]:List (Nat×Option Ob))) (fun p:Nat×List (List RelM)×Int=>p.1≤st.toNat∧p.2.1.length=p.1∧(-1≤p.2.2∧p.2.2≤(t.length:Int))∧S=statesI t so ats fs (st.toNat - p.1) p.1 p.2.1 p.2.2) (fun p:Nat×List (List RelM)×Int=>st.toNat - p.1) ((0,[],A0));(conv=>lhs;simp only[Nf.lpR,Nf.all,Nat.reduceBEq,reduceAdd,reduceSub]);(all_goals skip))
 ·exact⟨Nat.zero_le _,rfl,hhr,hS.symm⟩
 ·exact weak rfl (by(refine⟨.intE (by first|with_reducible rfl|(rfl)),?_⟩;refine⟨.intE (by first|with_reducible rfl|(rfl)),?_⟩;refine⟨.eq rfl rfl,?_⟩;refine⟨.intE (by first|with_reducible rfl|(rfl)),?_⟩;(iterate 2 refine⟨.eq rfl rfl,?_⟩);refine⟨.strE (by first|with_reducible rfl|(rfl)),?_⟩;exact trivial)) (by(refine⟨.box _ rfl ?_,?_⟩;refine⟨.pvE (by first|with_reducible rfl|(rfl)),?_⟩;refine⟨.intE (by first|with_reducible rfl|(rfl)),?_⟩;refine⟨.nilown _ _ _ rfl rfl,?_⟩;refine⟨.intE (by first|with_reducible rfl|(rfl)),?_⟩;exact trivial;refine⟨.newrow rfl,?_⟩;refine⟨.box _ rfl ?_,?_⟩;refine⟨.eq rfl rfl,?_⟩;refine⟨.intE (by first|with_reducible rfl|(rfl)),?_⟩;refine⟨.eq rfl rfl,?_⟩;refine⟨.intE (by first|with_reducible rfl|(rfl)),?_⟩;exact trivial;refine⟨.box _ rfl ?_,?_⟩;(iterate 2 refine⟨.pvE (by first|with_reducible rfl|(rfl)),?_⟩);(iterate 2 refine⟨.eq rfl rfl,?_⟩);(iterate 2 exact trivial))) rfl
 clear hS hhd hfi hsc
 rintro⟨i,acc,a⟩ ⟨hi,hac,ha,hT⟩
 simp only at hi hac ha hT ⊢
 by_cases hlt:i<st.toNat
 ·rw[show st.toNat - i=(st.toNat - (i+1))+1 by omega,statesI_s] at hT
  have hd:=digits34_fn (i:Int) (by omega)
  have hdl:=digT_le (z:=(i:Int)) (by omega)
  have hdz:=mk_size (digT (i:Int))
  have h1:=eat_fn t (stWord i) a (by omega) (by show(stWord i).length≤_;unfold stWord;rw[List.length_append,List.length_append];simp;omega) (by omega)
  have h1r:=eat_rng t (stWord i) a
  rw[← word_st] at h1
  generalize eatI t a (stWord i)=a1 at h1 h1r hT
  generalize mkS (digT (i:Int))=dg at hd hdz h1
  generalize hLL:linesI t so ats fs [] a1=LL at hT
  (refine j26 ?_;refine j64 ?_;refine zb ?_;refine j139 ?_;refine j1 ?_;refine j2 ?_;(iterate 3 refine zm ?_);refine zA (hd) ?_;(with_reducible apply AOps.catS);(iterate 5 exact rfl);(first|omega|decide|(simp only[ByteArray.size_append];omega));(with_reducible apply AOps.catS);(iterate 5 exact rfl);(first|omega|decide|(simp only[ByteArray.size_append];omega));refine zA (h1) ?_;refine j58 ?_;refine j311 ?_)
  (refine nz ?_;apply AW.loopR [8,6,5,4,2,1] [2,21,1,0] (fun p:Nat×List RelM×Int=>([(7,litI p.2.2),(9,.own 22 54 2 (p.2.1.map encR)),(10,litI p.1)]:List (Nat×AV))) (fun p:Nat×List RelM×Int=>([(22,some .row)]:List (Nat×Option Ob))) (fun p:Nat×List RelM×Int=>p.1≤fs.length∧p.2.1.length=p.1∧(-1≤p.2.2∧p.2.2≤(t.length:Int))∧LL=linesI t so ats (fs.drop p.1) p.2.1 p.2.2) (fun p:Nat×List RelM×Int=>fs.length - p.1) ((0,[],a1));(conv=>lhs;simp only[Nf.lpR,Nf.all,Nat.reduceBEq,reduceAdd,reduceSub]);(all_goals skip))
  ·exact⟨Nat.zero_le _,rfl,⟨h1r.1,h1r.2.1⟩,hLL.symm⟩
  ·exact weak rfl (by(refine⟨.intE (by first|with_reducible rfl|(rfl)),?_⟩;refine⟨.nilown _ _ _ rfl rfl,?_⟩;(iterate 2 refine⟨.intE (by first|with_reducible rfl|(rfl)),?_⟩);refine⟨.eq rfl rfl,?_⟩;refine⟨.intE (by first|with_reducible rfl|(rfl)),?_⟩;(iterate 2 refine⟨.eq rfl rfl,?_⟩);refine⟨.strE (by first|with_reducible rfl|(rfl)),?_⟩;exact trivial)) (by(refine⟨.newrow rfl,?_⟩;refine⟨.box _ rfl ?_,?_⟩;refine⟨.pvE (by first|with_reducible rfl|(rfl)),?_⟩;refine⟨.intE (by first|with_reducible rfl|(rfl)),?_⟩;refine⟨.ownE (by first|with_reducible rfl|(rfl)) rfl,?_⟩;refine⟨.intE (by first|with_reducible rfl|(rfl)),?_⟩;exact trivial;refine⟨.row rfl,?_⟩;refine⟨.box _ rfl ?_,?_⟩;refine⟨.eq rfl rfl,?_⟩;refine⟨.intE (by first|with_reducible rfl|(rfl)),?_⟩;refine⟨.eq rfl rfl,?_⟩;refine⟨.intE (by first|with_reducible rfl|(rfl)),?_⟩;exact trivial;refine⟨.box _ rfl ?_,?_⟩;(iterate 2 refine⟨.pvE (by first|with_reducible rfl|(rfl)),?_⟩);(iterate 2 refine⟨.eq rfl rfl,?_⟩);(iterate 2 exact trivial))) rfl
  clear hd h1 hLL
  rintro⟨k,rs,a⟩ ⟨hk,hrs,ha,hU⟩
  simp only at hk hrs ha hU ⊢
  by_cases hlk:k<fs.length
  ·rw[List.drop_eq_getElem_cons hlk,linesI_c] at hU
   by_cases hneg:a<0
   ·rw[if_pos hneg] at hU
    subst hU
    simp only at hT
    (refine j238 ?_;refine zn ?_;refine j200 ?_;refine zd ?_;refine j4 ?_;refine thenD_n ?_;refine j263 ?_;refine nz ?_;refine j81 ?_;(with_reducible apply AOps.appendS);exact rfl;(first|exact .pv rfl|exact .own rfl|exact .nil rfl);(iterate 9 exact rfl);(first|omega|(simp only[List.length_map,List.length_append,List.length_cons,List.length_nil,List.length_drop,List.length_take,List.length_set,List.length_range,chunk_len];omega));refine nz ?_;refine j250 ?_;refine j348 ?_)
    exact j43
   ·rw[if_neg hneg] at hU
    have hm:=List.getElem_mem hlk
    have h2:=hrf fs[k] hm (hfit _ hm) a ha
    have h2r:=line_rng t so ats fs[k] a
    generalize lineI t so ats fs[k] a=q at h2 h2r hU
    obtain⟨r,e⟩:=q
    simp only at h2 h2r hU
    (refine j238 ?_;refine zn ?_;refine j200 ?_;refine zd ?_;refine j1 ?_;refine zo ?_;refine AW.regionM [0,1,2,3,4,5,6,7,8,9] [15] rfl (by assumption) (by kernel_rfl) (by kernel_rfl) rfl ?_;show AOps .held _ _ _ [_,_,_,_,_,_,_,_,_,_] _ _;refine j100 ?_;(with_reducible apply AOps.load_bs);(iterate 3 exact rfl);(repeat' first|exact Sub.nil|apply Sub.take|apply Sub.skip);(iterate 3 exact rfl);refine j47 ?_;refine zm ?_;(focus ((with_reducible apply AOps.index_map);(iterate 7 exact rfl);rotate_left;omega));refine j167 ?_;(iterate 2 refine zm ?_);refine j6 ?_;intro k_ hk_;refine nz ?_;apply AR.cut [9,8,7,6,5,4,3,2,1,0,10,11,12,13,14,15];intro hJ_0;apply AR.cut [9,8,7,6,5,4,3,2,1,0,10,11,12,13,14];intro hJ_1;apply AR.cut [9,8,7,6,5,4,3,2,1,0,10,11,12,14];intro hJ_2;apply AR.cut [9,8,7,6,5,4,3,2,1,0,10,11,13,14];intro hJ_3;apply AR.cut [9,8,7,6,5,4,3,2,1,0,10,11,12,13];intro hJ_4;apply AR.cut [9,8,7,6,5,4,3,2,1,0,10,11,14];intro hJ_5;(refine AR.step2M (i:=10) (j:=14) rfl (by kernel_rfl) rfl rfl ?_ ?_<;>intro g_ hgro_ hw_);refine zP (h2) ?_;refine j6 ?_;(refine AR.step2M (i:=11) (j:=14) rfl (by kernel_rfl) rfl rfl ?_ ?_<;>intro g_ hgro_ hw_);refine AOps.move_tup rfl rfl rfl ?_;refine j6 ?_;(refine AR.step3M (i:=12) (j:=13) (m:=14) rfl (by kernel_rfl) rfl rfl rfl ?_ ?_ ?_<;>intro g_ hgro_ hw_);refine AOps.extract rfl rfl rfl rfl ?_;refine j6 ?_;(refine AR.step2M (i:=13) (j:=14) rfl (by kernel_rfl) rfl rfl ?_ ?_<;>intro g_ hgro_ hw_);refine AOps.extract rfl rfl rfl rfl ?_;refine j18 ?_;exact AR.perm (by kernel_rfl) hJ_4;refine j21 ?_;refine j18 ?_;exact AR.perm (by kernel_rfl) hJ_2;refine AOps.extract rfl rfl rfl rfl ?_;refine j6 ?_;(refine AR.step2M (i:=12) (j:=14) rfl (by kernel_rfl) rfl rfl ?_ ?_<;>intro g_ hgro_ hw_);refine j135 ?_;refine AR.meet hJ_4 (by kernel_rfl) (fun g_=>weak rfl ?_ ?_ rfl);(iterate 32 refine⟨.eq rfl rfl,?_⟩);exact trivial;refine⟨.row rfl,?_⟩;exact j132;refine j21 ?_;refine j18 ?_;exact AR.perm (by kernel_rfl) hJ_3;refine j21 ?_;refine j18 ?_;exact AR.perm (by kernel_rfl) hJ_5;refine j21 ?_;refine j6 ?_;refine AR.step1M (i:=11) rfl (by kernel_rfl) rfl ?_;intro g_ hgro_ hw_;exact j331;refine j21 ?_;refine j6 ?_;refine AR.step1M (i:=10) rfl (by kernel_rfl) rfl ?_;intro g_ hgro_ hw_;refine zP (h2) ?_;refine j6 ?_;refine AR.step1M (i:=11) rfl (by kernel_rfl) rfl ?_;intro g_ hgro_ hw_;exact j331;(refine AR.step2M (i:=12) (j:=13) rfl (by kernel_rfl) rfl rfl ?_ ?_<;>intro g_ hgro_ hw_);refine j135 ?_;refine AR.meet hJ_2 (by kernel_rfl) (fun g_=>weak rfl ?_ ?_ rfl);(iterate 32 refine⟨.eq rfl rfl,?_⟩);exact trivial;exact j271;refine j135 ?_;refine AR.meet hJ_3 (by kernel_rfl) (fun g_=>weak rfl ?_ ?_ rfl);(iterate 32 refine⟨.eq rfl rfl,?_⟩);exact trivial;exact j271;refine AR.step1M (i:=14) rfl (by kernel_rfl) rfl ?_;intro g_ hgro_ hw_;refine j21 ?_;refine j18 ?_;exact AR.perm (by kernel_rfl) hJ_1;refine AR.step1M (i:=12) rfl (by kernel_rfl) rfl ?_;intro g_ hgro_ hw_;refine j135 ?_;refine AR.meet hJ_1 (by kernel_rfl) (fun g_=>weak rfl ?_ ?_ rfl);(iterate 33 refine⟨.eq rfl rfl,?_⟩);exact trivial;exact j271;(refine AR.step2L (i:=13) (j:=15) rfl (by kernel_rfl) rfl rfl (by kernel_rfl) ?_ ?_<;>intro g_ hgro_ hwt2_);refine j135 ?_;refine AR.meet hJ_1 (by kernel_rfl) (fun g_=>weak rfl ?_ ?_ rfl);(iterate 33 refine⟨.eq rfl rfl,?_⟩);exact trivial;exact j271;refine j155 ?_;refine j6 ?_;refine AR.step1LM (i:=13) rfl (by kernel_rfl) rfl (by kernel_rfl) ?_;intro g_ hgro_ hwt2_;refine AOps.extract rfl rfl rfl rfl ?_;refine j18 ?_;exact AR.perm (by kernel_rfl) hJ_0;refine AR.step1LM (i:=15) rfl (by kernel_rfl) rfl (by kernel_rfl) ?_;intro g_ hgro_ hwt2_;refine j155 ?_;refine j204 ?_;refine AR.meet hJ_0 (by kernel_rfl) (fun g_=>weak rfl ?_ ?_ rfl);(iterate 33 refine⟨.eq rfl rfl,?_⟩);exact trivial;exact j271;refine AR.step1LM (i:=16) rfl (by kernel_rfl) rfl (by kernel_rfl) ?_;intro g_ hgro_ hwt2_;refine za ?_;refine j96 ?_;refine thenD_n ?_;refine j313 ?_;refine j27 ?_;refine AOps.bs1a2 rfl rfl rfl rfl rfl rfl rfl rfl rfl ?_;refine nz ?_;(with_reducible apply AOps.appendS);exact rfl;(first|exact .pv rfl|exact .own rfl|exact .nil rfl);(iterate 9 exact rfl);(first|omega|(simp only[List.length_map,List.length_append,List.length_cons,List.length_nil,List.length_drop,List.length_take,List.length_set,List.length_range,chunk_len];omega));refine nz ?_;refine j222 ?_;refine j372 ?_;refine j158 ?_)
    exact⟨(k+1,rs++ [r],e),⟨by omega,by simp;omega,h2r,hU⟩,by show fs.length - (k+1)<fs.length - k;omega,weak rfl (by(refine⟨.intE (by first|rfl|(rw[List.map_append];rfl)),?_⟩;refine⟨.ownE (by first|rfl|(rw[List.map_append];rfl)) rfl,?_⟩;refine⟨.intE (by first|rfl|(rw[List.map_append];rfl)),?_⟩;refine⟨.intE (by first|rfl|(rw[List.map_append];rfl)),?_⟩;refine⟨.eq rfl rfl,?_⟩;refine⟨.intE (by first|rfl|(rw[List.map_append];rfl)),?_⟩;(iterate 2 refine⟨.eq rfl rfl,?_⟩);refine⟨.strE (by first|rfl|(rw[List.map_append];rfl)),?_⟩;exact trivial)) (by(refine⟨.row rfl,?_⟩;refine⟨.box _ rfl ?_,?_⟩;refine⟨.pvE (by first|rfl|(rw[List.map_append];rfl)),?_⟩;refine⟨.intE (by first|rfl|(rw[List.map_append];rfl)),?_⟩;refine⟨.ownE (by first|rfl|(rw[List.map_append];rfl)) rfl,?_⟩;refine⟨.intE (by first|rfl|(rw[List.map_append];rfl)),?_⟩;exact trivial;refine⟨.row rfl,?_⟩;refine⟨.box _ rfl ?_,?_⟩;refine⟨.eq rfl rfl,?_⟩;refine⟨.intE (by first|rfl|(rw[List.map_append];rfl)),?_⟩;refine⟨.eq rfl rfl,?_⟩;refine⟨.intE (by first|rfl|(rw[List.map_append];rfl)),?_⟩;exact trivial;refine⟨.box _ rfl ?_,?_⟩;refine⟨.pvE (by first|rfl|(rw[List.map_append];rfl)),?_⟩;refine⟨.pvE (by first|rfl|(rw[List.map_append];rfl)),?_⟩;(iterate 2 refine⟨.eq rfl rfl,?_⟩);(iterate 2 exact trivial))) rfl⟩
  ·obtain rfl:k=fs.length:=by omega
   rw[List.drop_length,linesI_0] at hU
   subst hU
   simp only at hT
   (refine j238 ?_;refine zn ?_;refine j353 ?_;refine j259 ?_;refine zd ?_;refine j44 ?_;refine j263 ?_;refine nz ?_;refine j81 ?_;(with_reducible apply AOps.appendS);exact rfl;(first|exact .pv rfl|exact .own rfl|exact .nil rfl);(iterate 9 exact rfl);(first|omega|(simp only[List.length_map,List.length_append,List.length_cons,List.length_nil,List.length_drop,List.length_take,List.length_set,List.length_range,chunk_len];omega));refine nz ?_;refine j250 ?_;refine j348 ?_)
   exact j43
 ·obtain rfl:i=st.toNat:=by omega
  rw[Nat.sub_self,statesI_0] at hT
  subst hT
  simp only
  have hv:=hval ⟨ats,st,acc,lp⟩
  have hvq:=hveq ⟨ats,st,acc,lp⟩
  have hfv:=hfm ⟨ats,st,acc,lp⟩
  by_cases c4:a<0
  ·rw[if_pos (.inl c4)]
   (refine j26 ?_;refine j64 ?_;refine zb ?_;refine j218 ?_;refine zm ?_;refine j353 ?_;refine j176 ?_;refine zT ?_;refine j115 ?_;refine j247 ?_)
   (apply ends_ret;(exact Res.two (.cell rfl rfl rfl rfl) (.tmp rfl rfl));(refine Le.tupL ?_;refine LeL.cons ?_ ?_;refine Le.aggL ?_;refine j182 ?_;refine LeL.cons ?_ ?_;refine Le.litI ?_;(rfl);refine j182 ?_;refine LeL.cons ?_ ?_;refine Le.litI ?_;(rfl);exact LeL.nil;refine LeL.cons ?_ ?_;refine Le.litI ?_;(rfl);exact LeL.nil))
  cases c5:rValidB ⟨so,fs,p_,q_⟩ ⟨ats,st,acc,lp⟩ with
  |false=>
   rw[c5] at hv
   rw[if_pos (.inr (.inl rfl))]
   (refine j291 ?_;refine j115 ?_;refine j247 ?_)
   (apply ends_ret;(exact Res.two (.cell rfl rfl rfl rfl) (.tmp rfl rfl));(refine Le.tupL ?_;refine LeL.cons ?_ ?_;refine Le.aggL ?_;refine j182 ?_;refine LeL.cons ?_ ?_;refine Le.litI ?_;(rfl);refine j182 ?_;refine LeL.cons ?_ ?_;refine Le.litI ?_;(rfl);exact LeL.nil;refine LeL.cons ?_ ?_;refine Le.litI ?_;(rfl);exact LeL.nil))
  |true=>
  rw[c5] at hv hvq
  have hfv:=hfv hvq.symm
  by_cases hq:fmtT ⟨so,fs,p_,q_⟩ ⟨ats,st,acc,lp⟩=t
  ·rw[hq] at hfv
   rw[if_neg (by simp [hq];omega)]
   (refine j291 ?_;refine zm ?_;refine j306 ?_;refine zA (hfv) ?_;refine j314 ?_;(focus ((with_reducible apply AW.condD);exact rfl;exact rfl;all_goals intro hc_));refine j220 ?_;refine j247 ?_;(all_goals skip);rotate_left;refine j29 ?_;refine j324 ?_;refine j155 ?_;refine j11 ?_;(all_goals skip);rotate_left)
   ·exact absurd rfl hc_
   (apply ends_ret;(exact Res.two (.cell rfl rfl rfl rfl) (.tmp rfl rfl));(refine Le.tupL ?_;refine LeL.cons ?_ ?_;refine Le.aggL ?_;refine LeL.cons ?_ ?_;(with_reducible exact Le.pv _);refine LeL.cons ?_ ?_;(with_reducible exact Le.pv _);refine LeL.cons ?_ ?_;exact Le.own _ _ _ _ rfl;refine LeL.cons ?_ ?_;(with_reducible exact Le.pv _);exact LeL.nil;refine LeL.cons ?_ ?_;refine Le.litI ?_;(rfl);exact LeL.nil))
  ·have hq':mkS (fmtT ⟨so,fs,p_,q_⟩ ⟨ats,st,acc,lp⟩)≠mkS t:=fun h=>hq (mk_inj.1 h)
   rw[if_pos (.inr (.inr hq))]
   generalize mkS (fmtT ⟨so,fs,p_,q_⟩ ⟨ats,st,acc,lp⟩)=ft at hfv hq'
   (refine j291 ?_;refine zm ?_;refine j306 ?_;refine zA (hfv) ?_;refine j314 ?_;refine zc ?_;refine j220 ?_;refine j247 ?_)
   (apply ends_ret;(exact Res.two (.cell rfl rfl rfl rfl) (.tmp rfl rfl));(refine Le.tupL ?_;refine LeL.cons ?_ ?_;refine Le.aggL ?_;refine j182 ?_;refine LeL.cons ?_ ?_;refine Le.litI ?_;(rfl);refine j182 ?_;refine LeL.cons ?_ ?_;refine Le.litI ?_;(rfl);exact LeL.nil;refine LeL.cons ?_ ?_;refine Le.litI ?_;(rfl);exact LeL.nil))
end Go.Ab
/- Chapter 34:the program and the reference agree,walked. -/
namespace Go.Ab
open Go Go.Proofs
set_option maxRecDepth 20000
set_option maxHeartbeats 16000000
attribute [local irreducible] AW AOps thenD inBlockD AR iterEnds roundEndsN inlEnds noGotoD EndsX EndsP byteAt parseF fmtT mkS refP
theorem lawRef_fn (s:SpecM) (m:ModM) (t:Bt):FnW errT Tryz.prog 3 [spc s,mdl m,litS (mkS t)] (litB true):=by
 have hstay_:=errT_stay
 have hh:=head34_fn
 have h1:=few_fn s m
 cases e1:fewB s m with
 |false=>
  rw[e1] at h1
  obtain⟨so,fs,p,q⟩:=s
  obtain⟨ats,stp,sts,lp⟩:=m
  refine FnW.enter hstay_ (n:=60) Tryz.func3 rfl rfl rfl rfl rfl (by decide) fun g hro_ hwt_ hT=>?_;(try refine nz ?_)
  (refine j187 ?_;(with_reducible apply AOps.callW (hf:=hh));(first|(with_reducible assumption)|(refine TB.gs ?_ (by with_reducible assumption);with_reducible assumption)|(refine TB.gi ?_ (by with_reducible assumption);with_reducible assumption)|exact TB.none _);(repeat (first|exact .nil|(refine .cons rfl ?_ ?_;(first|exact .pv _|exact .own _ _ _ _ rfl|exact .nil _|exact .any _|exact .rptr _|(refine .aggL ?_;repeat (first|exact .nil|(refine .cons ?_ ?_;(first|exact .pv _|exact .own _ _ _ _ rfl|exact .nil _))))))));exact rfl;exact rfl;exact(fun h_=>by cases h_);refine j37 ?_;refine j137 ?_;refine zA (h1) ?_;refine j145 ?_;refine j113 ?_;refine AOps.pick_lt rfl rfl rfl rfl rfl rfl ?_;refine j154 ?_;refine j2 ?_;refine zm ?_;refine j247 ?_)
  (apply ends_ret;(exact Res.one (.tmp rfl rfl));(refine Le.litB ?_;(rfl)))
 |true=>
 rw[e1] at h1
 obtain⟨hsp,hsm⟩:=few_spec e1
 have hss:=small_spec hsm
 have kz:=mk_size t
 by_cases hmo:3000<t.length
 ·obtain⟨so,fs,p,q⟩:=s
  obtain⟨ats,stp,sts,lp⟩:=m
  refine FnW.enter hstay_ (n:=60) Tryz.func3 rfl rfl rfl rfl rfl (by decide) fun g hro_ hwt_ hT=>?_;(try refine nz ?_)
  (refine j187 ?_;(with_reducible apply AOps.callW (hf:=hh));(first|(with_reducible assumption)|(refine TB.gs ?_ (by with_reducible assumption);with_reducible assumption)|(refine TB.gi ?_ (by with_reducible assumption);with_reducible assumption)|exact TB.none _);(repeat (first|exact .nil|(refine .cons rfl ?_ ?_;(first|exact .pv _|exact .own _ _ _ _ rfl|exact .nil _|exact .any _|exact .rptr _|(refine .aggL ?_;repeat (first|exact .nil|(refine .cons ?_ ?_;(first|exact .pv _|exact .own _ _ _ _ rfl|exact .nil _))))))));exact rfl;exact rfl;exact(fun h_=>by cases h_);refine j37 ?_;refine j211 ?_;refine zc ?_;refine j2 ?_;refine zm ?_;refine j247 ?_)
  (apply ends_ret;(exact Res.one (.tmp rfl rfl));(refine Le.litB ?_;(rfl)))
 have h2:=rValid_fn s m (by omega) fun f hf=>by have:=hss.2 f hf;omega
 rw[valid_eq] at h2
 have p1:=parse_fn s hsp (t:=t) (by omega)
 have p2:=parse34_fn s hsp t (by omega)
 rw[ref_eq hsp] at p2
 have q1:=rEq07_fn (parseF s t).1 (parseF s t).1
 rw[decide_eq_true rfl] at q1
 have hf1:=fun(e2:validB (fullR m.atoms) s m=true)=>format_fn s m (fmt_ok hsp e2)
 have hf2:=fun(e2:validB (fullR m.atoms) s m=true)=>format34_fn s m (fmt_q hsp e2)
 generalize parseF s t=k at p1 p2 q1
 obtain⟨⟨a2,s2,x2,l2⟩,e⟩:=k
 simp only at p1 p2 q1
 cases e2:validB (fullR m.atoms) s m with
 |false=>
  rw[e2] at h2
  clear hf1 hf2
  obtain⟨so,fs,p,q⟩:=s
  obtain⟨ats,stp,sts,lp⟩:=m
  refine FnW.enter hstay_ (n:=60) Tryz.func3 rfl rfl rfl rfl rfl (by decide) fun g hro_ hwt_ hT=>?_;(try refine nz ?_)
  (refine j187 ?_;(with_reducible apply AOps.callW (hf:=hh));(first|(with_reducible assumption)|(refine TB.gs ?_ (by with_reducible assumption);with_reducible assumption)|(refine TB.gi ?_ (by with_reducible assumption);with_reducible assumption)|exact TB.none _);(repeat (first|exact .nil|(refine .cons rfl ?_ ?_;(first|exact .pv _|exact .own _ _ _ _ rfl|exact .nil _|exact .any _|exact .rptr _|(refine .aggL ?_;repeat (first|exact .nil|(refine .cons ?_ ?_;(first|exact .pv _|exact .own _ _ _ _ rfl|exact .nil _))))))));exact rfl;exact rfl;exact(fun h_=>by cases h_);refine j37 ?_;refine j211 ?_;refine j105 ?_;refine j324 ?_;refine zm ?_;(with_reducible apply AOps.callWp (hf:=p1));(first|(with_reducible assumption)|(refine TB.gs ?_ (by with_reducible assumption);with_reducible assumption)|(refine TB.gi ?_ (by with_reducible assumption);with_reducible assumption)|exact TB.none _);(repeat (first|exact .nil|(refine .cons rfl ?_ ?_;(first|exact .pv _|exact .own _ _ _ _ rfl|exact .nil _|exact .any _|exact .rptr _|(refine .aggL ?_;repeat (first|exact .nil|(refine .cons ?_ ?_;(first|exact .pv _|exact .own _ _ _ _ rfl|exact .nil _))))))));exact rfl;refine j31 ?_;refine j21 ?_;refine j155 ?_;refine j58 ?_;refine j27 ?_;refine zm ?_;refine j282 ?_;refine AW.regionM [0,1,2,3] [] rfl (by assumption) (by kernel_rfl) (by kernel_rfl) rfl ?_;show AOps .held _ _ _ [_,_,_,_] _ _;(iterate 2 refine zm ?_);refine j116 ?_;refine j27 ?_;refine j6 ?_;intro k_ hk_;refine AR.step1M (i:=4) rfl (by kernel_rfl) rfl ?_;intro g_ hgro_ hw_;refine zl ?_;refine zA (h2) ?_;refine j6 ?_;refine AR.readsM [5,6,7,8,10,11] (by kernel_rfl) (by kernel_rfl) (by kernel_rfl) (by kernel_rfl) ?_;intro g_ hgro_;show AOps .held _ _ _ [_,_,_,_,_,_] _ _;refine j262 ?_;refine zl ?_;refine zm ?_;refine j134 ?_;refine j6 ?_;intro k_ hk_;refine nz ?_;refine AR.step1M (i:=9) rfl (by kernel_rfl) rfl ?_;intro g_ hgro_ hw_;refine AOps.guard_lf rfl rfl rfl rfl rfl rfl rfl ?_;refine j6 ?_;refine AR.step1M (i:=12) rfl (by kernel_rfl) rfl ?_;intro g_ hgro_ hw_;refine AOps.guard_lf rfl rfl rfl rfl rfl rfl rfl ?_;refine j6 ?_;refine AR.readsM [13,14,15,16] (by kernel_rfl) (by kernel_rfl) (by kernel_rfl) (by kernel_rfl) ?_;intro g_ hgro_;show AOps .held _ _ _ [_,_,_,_] _ _;refine AOps.guard_lf rfl rfl rfl rfl rfl rfl rfl ?_;refine zl ?_;(iterate 2 refine AOps.pick_lt rfl rfl rfl rfl rfl rfl ?_);refine za ?_;refine j6 ?_;intro k_ hk_;refine nz ?_;refine j230 ?_;refine AW.ret ?_)
  (apply ends_ret;(exact Res.one (.tmp rfl rfl));(refine Le.litB ?_;(rfl)))
 |true=>
  rw[e2] at h2
  have f1:=hf1 e2
  have f2:=hf2 e2
  clear hf1 hf2
  obtain⟨so,fs,p,q⟩:=s
  obtain⟨ats,stp,sts,lp⟩:=m
  generalize fmtT ⟨so,fs,p,q⟩ ⟨ats,stp,sts,lp⟩=u at*
  refine FnW.enter hstay_ (n:=60) Tryz.func3 rfl rfl rfl rfl rfl (by decide) fun g hro_ hwt_ hT=>?_;(try refine nz ?_)
  (refine j187 ?_;(with_reducible apply AOps.callW (hf:=hh));(first|(with_reducible assumption)|(refine TB.gs ?_ (by with_reducible assumption);with_reducible assumption)|(refine TB.gi ?_ (by with_reducible assumption);with_reducible assumption)|exact TB.none _);(repeat (first|exact .nil|(refine .cons rfl ?_ ?_;(first|exact .pv _|exact .own _ _ _ _ rfl|exact .nil _|exact .any _|exact .rptr _|(refine .aggL ?_;repeat (first|exact .nil|(refine .cons ?_ ?_;(first|exact .pv _|exact .own _ _ _ _ rfl|exact .nil _))))))));exact rfl;exact rfl;exact(fun h_=>by cases h_);refine j37 ?_;refine j211 ?_;refine j105 ?_;refine j324 ?_;refine zm ?_;(with_reducible apply AOps.callWp (hf:=p1));(first|(with_reducible assumption)|(refine TB.gs ?_ (by with_reducible assumption);with_reducible assumption)|(refine TB.gi ?_ (by with_reducible assumption);with_reducible assumption)|exact TB.none _);(repeat (first|exact .nil|(refine .cons rfl ?_ ?_;(first|exact .pv _|exact .own _ _ _ _ rfl|exact .nil _|exact .any _|exact .rptr _|(refine .aggL ?_;repeat (first|exact .nil|(refine .cons ?_ ?_;(first|exact .pv _|exact .own _ _ _ _ rfl|exact .nil _))))))));exact rfl;refine j31 ?_;refine j21 ?_;refine j155 ?_;refine j58 ?_;refine j27 ?_;refine zm ?_;refine j282 ?_;(with_reducible apply AW.regionQ);exact rfl;exact rfl;kernel_rfl;(with_reducible assumption);(iterate 2 refine zm ?_);refine j306 ?_;refine zA (h2) ?_;refine j262 ?_;refine zl ?_;refine zm ?_;refine j306 ?_;refine zA (f1) ?_;refine j306 ?_;refine zA (f2) ?_;refine zl ?_;refine AOps.eqlS rfl rfl rfl rfl rfl ?_;refine zl ?_;refine AOps.pick_lf rfl rfl rfl rfl rfl rfl ?_;refine AOps.pick_lt rfl rfl rfl rfl rfl rfl ?_;refine j11 ?_)
  (apply ends_ret;(exact Res.one (.tmp rfl rfl));(refine Le.litB ?_;(first|rfl|exact decide_eq_true rfl)))
end Go.Ab
