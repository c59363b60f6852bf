/- Chapter 34: the scanner's tuples where the text does not fit, walked. -/
import Derived.Test.YtijkecidjjicbaaGreatDoorAqP5
import Derived.Test.YtijkecidjjicbaaGreatDoorAbZ
import Derived.Test.YtijkecidjjicbaaGreatDoorAbL3
set_option linter.unusedSimpArgs false
set_option linter.unusedVariables false
namespace Go.Ab
open Go Go.Proofs
open Nat (reduceAdd reduceSub)
set_option maxRecDepth 20000
set_option maxHeartbeats 4000000
theorem bind_none {α β:Type} {o:Option α} {f:α→Option β} (h:o.bind f=none):o=none∨∃x,o=some x∧f x=none:=by
 cases o with
 |none=>exact .inl rfl
 |some x=>exact .inr ⟨x,rfl,h⟩
attribute [local irreducible] AW AOps thenD inBlockD AR iterEnds roundEndsN inlEnds noGotoD EndsX EndsP byteAt
theorem tupleN_fn (sp:SpecM) (f:FieldM) (at':List Int) (st:Int) {s:Bt} (h5:SmA at') (hsum:at'.sum≤1000) (hl:sp.sorts.length=at'.length) (hks:insB sp.sorts.length f.sorts=true) (hkl:f.sorts.length≤1000) (hz:∀q∈sp.sorts,q.1.size≤1000) (hs:s.length≤1000000000) (h:tupP sp.sorts at' f.sorts [] s=none):
  FnD errT Tryz.prog 60 92 4 (SB s) [.ptr 3 0,spc sp,scp at' st,fld f] SX:=by
 obtain⟨so,fs,p_,q_⟩:=sp
 obtain⟨nm_,ks,var_⟩:=f
 simp only at hl hks hkl h ⊢
 unfold SB SX
 refine FnD.enter (n:=59) Tryz.func92 rfl rfl rfl rfl (by decide) rfl rfl fun g hro_ hwt_ hT=>?_;refine j32 ?_
 (refine zq ?_;refine j5 ?_;refine j40 ?_;refine j58 ?_;refine j37 ?_;refine j57 ?_;refine j97 ?_)
 (refine nz ?_;apply AW.loopR [15,14,6,5,0,1000] [5,4] (fun k:Nat×List Int×Bt=>([(16,litI k.1),(9,.own 7 3 1 (k.2.1.map encI))]:List (Nat×AV))) (fun k:Nat×List Int×Bt=>([(3,some (.box [litS (mkS k.2.2)])),(7,some .row)]:List (Nat×Option Ob))) (fun k:Nat×List Int×Bt=>k.1≤ks.length∧k.2.2.length≤1000000000∧k.2.1.length=k.1∧tupP so at' (ks.drop k.1) k.2.1 k.2.2=none) (fun k:Nat×List Int×Bt=>ks.length - k.1) (((0:Nat),[],s));(conv=>lhs;simp only[Nf.lpR,Nf.all,Nat.reduceBEq,reduceAdd,reduceSub]);(all_goals skip))
 ·exact⟨Nat.zero_le _,hs,rfl,h⟩
 ·exact weak rfl (by(refine⟨.intE (by first|with_reducible rfl|(rfl)),?_⟩;refine⟨.nilown _ _ _ rfl rfl,?_⟩;refine⟨.intE (by first|with_reducible rfl|(rfl)),?_⟩;refine⟨.pvE (by first|with_reducible rfl|(rfl)),?_⟩;(iterate 4 refine⟨.eq rfl rfl,?_⟩);exact trivial)) (by(refine⟨.box _ rfl ?_,?_⟩;refine⟨.eq rfl rfl,?_⟩;exact trivial;refine⟨.newrow rfl,?_⟩;refine⟨.box _ rfl ?_,?_⟩;refine⟨.pvE (by first|with_reducible rfl|(rfl)),?_⟩;refine⟨.intE (by first|with_reducible rfl|(rfl)),?_⟩;exact trivial;refine⟨.box _ rfl ?_,?_⟩;(iterate 2 refine⟨.pvE (by first|with_reducible rfl|(rfl)),?_⟩);(iterate 2 refine⟨.eq rfl rfl,?_⟩);(iterate 2 exact trivial))) rfl
 rintro⟨k,acc,t⟩ ⟨hk,ht,hac,htp⟩
 simp only at hk ht hac htp ⊢
 by_cases hlt:k<ks.length
 ·rw[List.drop_eq_getElem_cons hlt] at htp
  unfold tupP at htp
  have hin:=List.all_eq_true.1 hks _ (List.getElem_mem hlt)
  simp only[decide_eq_true_eq] at hin
  obtain⟨n,hn⟩:∃n:Nat,ks[k]=n:=⟨ks[k].toNat,by omega⟩
  have hns:n<so.length:=by omega
  have hna:n<at'.length:=by omega
  have hff:=first_fn at' st n h5 (by omega)
  have hb:=h5.2 _ (List.getElem_mem hna)
  have hbt:=h5.take n
  have hsn:=h5.1
  have en:(so.getD ks[k].toNat (⟨#[]⟩,false)).1=so[n].1:=by rw[hn,Int.toNat_natCast,List.getD_eq_getElem?_getD,List.getElem?_eq_getElem hns];rfl
  have ea:at'.getD ks[k].toNat 0=at'[n]:=by rw[hn,Int.toNat_natCast,getD_at hna]
  have ea2:at'[ks[k].toNat]'(by omega)=at'[n]:=by simp only[hn,Int.toNat_natCast]
  have en2:so[ks[k].toNat]'(by omega)=so[n]:=by simp only[hn,Int.toNat_natCast]
  rw[en,ea] at htp
  have hz1:=hz _ (List.getElem_mem hns)
  have et:(at'.take ks[k].toNat).sum=(at'.take n).sum:=by rw[hn,Int.toNat_natCast]
  rw[et] at htp
  rw[← hn] at hff
  have hle1:∀w∈ [sL so[n].1,[36]],w.length≤1000000000:=by rintro w hw;simp only[List.mem_cons,List.not_mem_nil,or_false] at hw;rcases hw with rfl|rfl<;>simp [mk_len]<;>omega
  -- behind the arrow
  have rest:∀s1:Bt,s1.length≤t.length→((skipT [sL so[n].1,[36]] s1).bind fun s=>(numT s).bind fun q=>if at'[n]≤q.1 then none else tupP so at' (ks.drop (k+1)) (acc++ [(at'.take n).sum+q.1]) q.2)=none→
    skipT [sL so[n].1,[36]] s1=none∨∃s2,skipT [sL so[n].1,[36]] s1=some s2∧s2.length≤t.length∧(numT s2=none∨∃v s3,numT s2=some (v,s3)∧0≤v∧v<100∧s3.length≤t.length∧(at'[n]≤v∨(v<at'[n]∧tupP so at' (ks.drop (k+1)) (acc++ [(at'.take n).sum+v]) s3=none))):=by
   intro s1 l1 hA
   rcases bind_none hA with h2|⟨s2,h2,hB⟩
   ·exact .inl h2
   ·have l2:=skip_len h2
    refine .inr ⟨s2,h2,by omega,?_⟩
    rcases bind_none hB with h3|⟨⟨v,s3⟩,h3,hC⟩
    ·exact .inl h3
    ·obtain⟨v1,v2,v3⟩:=num_spec h3
     refine .inr ⟨v,s3,h3,v1,v2,by omega,?_⟩
     simp only at hC
     by_cases hc:at'[n]≤v
     ·exact .inl hc
     ·rw[if_neg hc] at hC
      exact .inr ⟨by omega,hC⟩
  rcases Nat.eq_zero_or_pos k with hk0|hk0
  ·obtain rfl:acc=[]:=List.eq_nil_of_length_eq_zero (by omega)
   rw[if_pos rfl] at htp
   rcases rest t (Nat.le_refl _) htp with h2|⟨s2,h2,l2,h3|⟨v,s3,h3,v1,v2,l3,hc|⟨hc,hD⟩⟩⟩
   ·clear rest htp
    have hk2:=skipN_fn errT [sL so[n].1,[36]] ht hle1 (by simp) h2
    simp only[wordsV,List.map_cons,List.map_nil,mk_sL] at hk2
    unfold SB SX at hk2
    rw[← en2] at hk2
    (refine j303 ?_;(focus ((with_reducible apply AOps.index_map);(iterate 7 exact rfl);rotate_left;omega));refine j256 ?_;refine zm ?_;(focus ((with_reducible apply AOps.index_mapI);(iterate 7 exact rfl);omega;rotate_left;(first|omega|exact Nat.zero_lt_one|exact(by simp))));refine j128 ?_;refine j209 ?_;refine j325 ?_;(with_reducible apply AOps.callD (hf:=hk2));(with_reducible assumption);(first|(with_reducible assumption)|(refine TB.gs ?_ (by with_reducible assumption);with_reducible assumption)|(refine TB.gi ?_ (by with_reducible assumption);with_reducible assumption)|exact TB.none _);(iterate 3 exact rfl);(repeat (first|exact trivial|refine⟨rfl,?_⟩));(repeat (first|exact .nil|(refine .cons ?_ ?_;(first|exact .eq rfl rfl|exact .nil _|exact .any _))));exact rfl;exact rfl;(repeat (first|exact trivial|refine⟨rfl,?_⟩|refine⟨obIds_set,?_⟩));(repeat (first|exact trivial|refine⟨rfl,?_⟩|refine⟨obIds_set,?_⟩));(intro ch_ hch_);refine j241 ?_;refine j80 ?_)
    (apply endsP;(with_reducible assumption);((exact j51));((exact j42));exact rfl)
   ·clear rest htp
    have hk2:=skipY_fn [sL so[n].1,[36]] ht hle1 (by simp) h2
    simp only[wordsV,List.map_cons,List.map_nil,mk_sL] at hk2
    have hn2:=numberN_fn (by omega) h3
    unfold SB at hk2
    unfold SB SX at hn2
    rw[← en2] at hk2
    (refine j303 ?_;(focus ((with_reducible apply AOps.index_map);(iterate 7 exact rfl);rotate_left;omega));refine j256 ?_;refine zm ?_;(focus ((with_reducible apply AOps.index_mapI);(iterate 7 exact rfl);omega;rotate_left;(first|omega|exact Nat.zero_lt_one|exact(by simp))));refine j61 ?_;(with_reducible apply AOps.callD (hf:=hn2));(with_reducible assumption);(first|(with_reducible assumption)|(refine TB.gs ?_ (by with_reducible assumption);with_reducible assumption)|(refine TB.gi ?_ (by with_reducible assumption);with_reducible assumption)|exact TB.none _);(iterate 3 exact rfl);(repeat (first|exact trivial|refine⟨rfl,?_⟩));(repeat (first|exact .nil|(refine .cons ?_ ?_;(first|exact .eq rfl rfl|exact .nil _|exact .any _))));exact rfl;exact rfl;(repeat (first|exact trivial|refine⟨rfl,?_⟩|refine⟨obIds_set,?_⟩));(repeat (first|exact trivial|refine⟨rfl,?_⟩|refine⟨obIds_set,?_⟩));(intro ch_ hch_);refine j241 ?_;refine nz ?_;refine j80 ?_)
    (apply endsP;(with_reducible assumption);((exact j51));((exact j42));exact rfl)
   ·clear rest htp
    have hk2:=skipY_fn [sL so[n].1,[36]] ht hle1 (by simp) h2
    simp only[wordsV,List.map_cons,List.map_nil,mk_sL] at hk2
    have hn2:=numberY_fn (by omega) h3
    unfold SB at hk2 hn2
    rw[← en2] at hk2
    (refine j303 ?_;(focus ((with_reducible apply AOps.index_map);(iterate 7 exact rfl);rotate_left;omega));refine j256 ?_;refine zm ?_;(focus ((with_reducible apply AOps.index_mapI);(iterate 7 exact rfl);omega;rotate_left;(first|omega|exact Nat.zero_lt_one|exact(by simp))));refine j231 ?_;(focus ((with_reducible apply AOps.index_mapI);(iterate 7 exact rfl);omega;rotate_left;(first|omega|exact Nat.zero_lt_one|exact(by simp))));refine zr ?_;refine AOps.geq rfl rfl rfl rfl rfl ?_;refine j340 ?_;refine j122 ?_;refine nz ?_;(with_reducible apply AOps.mkPanic);(iterate 3 exact rfl);kernel_rfl;exact rfl;(intro ch_ hch_);refine j24 ?_;refine j80 ?_)
    (apply endsP;(with_reducible assumption);((exact j51));((exact j42));exact rfl)
   ·clear rest htp
    have hk2:=skipY_fn [sL so[n].1,[36]] ht hle1 (by simp) h2
    simp only[wordsV,List.map_cons,List.map_nil,mk_sL] at hk2
    have hn2:=numberY_fn (by omega) h3
    unfold SB at hk2 hn2
    rw[← en2] at hk2
    (refine j303 ?_;(focus ((with_reducible apply AOps.index_map);(iterate 7 exact rfl);rotate_left;omega));refine j256 ?_;refine zm ?_;(focus ((with_reducible apply AOps.index_mapI);(iterate 7 exact rfl);omega;rotate_left;(first|omega|exact Nat.zero_lt_one|exact(by simp))));refine j231 ?_;(focus ((with_reducible apply AOps.index_mapI);(iterate 7 exact rfl);omega;rotate_left;(first|omega|exact Nat.zero_lt_one|exact(by simp))));refine j184 ?_;(with_reducible apply AOps.appendS);exact rfl;(first|exact .pv rfl|exact .own rfl|exact .nil rfl);(iterate 9 exact rfl);(first|omega|(simp only[List.length_map,List.length_append,List.length_cons,List.length_nil,List.length_drop,List.length_take,List.length_set,chunk_len];omega));refine nz ?_;refine j136 ?_)
    exact j60
  ·rw[if_neg (by intro e;subst e;simp at hac;omega)] at htp
   rcases bind_none htp with h1|⟨s1,h1,hA⟩
   ·clear rest htp
    have hk1:=skipN_fn errT [[45,62]] ht (by simp) (by simp) (show skipT [[45,62]] t=none by unfold skipT;rw[h1];rfl)
    simp only[wordsV,List.map_cons,List.map_nil] at hk1
    unfold SB SX at hk1
    (refine j303 ?_;(focus ((with_reducible apply AOps.index_map);(iterate 7 exact rfl);rotate_left;omega));refine zr ?_;refine j101 ?_;refine j63 ?_;refine j340 ?_;refine j98 ?_;refine j15 ?_;(with_reducible apply AOps.callD (hf:=hk1));(with_reducible assumption);(first|(with_reducible assumption)|(refine TB.gs ?_ (by with_reducible assumption);with_reducible assumption)|(refine TB.gi ?_ (by with_reducible assumption);with_reducible assumption)|exact TB.none _);(iterate 3 exact rfl);(repeat (first|exact trivial|refine⟨rfl,?_⟩));(repeat (first|exact .nil|(refine .cons ?_ ?_;(first|exact .eq rfl rfl|exact .nil _|exact .any _))));exact rfl;exact rfl;(repeat (first|exact trivial|refine⟨rfl,?_⟩|refine⟨obIds_set,?_⟩));(repeat (first|exact trivial|refine⟨rfl,?_⟩|refine⟨obIds_set,?_⟩));(intro ch_ hch_);refine j241 ?_;refine j80 ?_)
    (apply endsP;(with_reducible assumption);((exact j51));((exact j42));exact rfl)
   have l1:=cut_len h1
   have hk1:=skipY_fn [[45,62]] ht (by simp) (by simp) (show skipT [[45,62]] t=some s1 by unfold skipT;rw[h1];rfl)
   simp only[wordsV,List.map_cons,List.map_nil] at hk1
   unfold SB at hk1
   have hs1:s1.length≤1000000000:=by omega
   rcases rest s1 l1 hA with h2|⟨s2,h2,l2,h3|⟨v,s3,h3,v1,v2,l3,hc|⟨hc,hD⟩⟩⟩
   ·clear rest htp hA
    have hk2:=skipN_fn errT [sL so[n].1,[36]] hs1 hle1 (by simp) h2
    simp only[wordsV,List.map_cons,List.map_nil,mk_sL] at hk2
    unfold SB SX at hk2
    rw[← en2] at hk2
    (refine j303 ?_;(focus ((with_reducible apply AOps.index_map);(iterate 7 exact rfl);rotate_left;omega));refine j208 ?_;refine zm ?_;(focus ((with_reducible apply AOps.index_mapI);(iterate 7 exact rfl);omega;rotate_left;(first|omega|exact Nat.zero_lt_one|exact(by simp))));refine j128 ?_;refine j209 ?_;refine j325 ?_;(with_reducible apply AOps.callD (hf:=hk2));(with_reducible assumption);(first|(with_reducible assumption)|(refine TB.gs ?_ (by with_reducible assumption);with_reducible assumption)|(refine TB.gi ?_ (by with_reducible assumption);with_reducible assumption)|exact TB.none _);(iterate 3 exact rfl);(repeat (first|exact trivial|refine⟨rfl,?_⟩));(repeat (first|exact .nil|(refine .cons ?_ ?_;(first|exact .eq rfl rfl|exact .nil _|exact .any _))));exact rfl;exact rfl;(repeat (first|exact trivial|refine⟨rfl,?_⟩|refine⟨obIds_set,?_⟩));(repeat (first|exact trivial|refine⟨rfl,?_⟩|refine⟨obIds_set,?_⟩));(intro ch_ hch_);refine j241 ?_;refine j80 ?_)
    (apply endsP;(with_reducible assumption);((exact j51));((exact j42));exact rfl)
   ·clear rest htp hA
    have hk2:=skipY_fn [sL so[n].1,[36]] hs1 hle1 (by simp) h2
    simp only[wordsV,List.map_cons,List.map_nil,mk_sL] at hk2
    have hn2:=numberN_fn (by omega) h3
    unfold SB at hk2
    unfold SB SX at hn2
    rw[← en2] at hk2
    (refine j303 ?_;(focus ((with_reducible apply AOps.index_map);(iterate 7 exact rfl);rotate_left;omega));refine j208 ?_;refine zm ?_;(focus ((with_reducible apply AOps.index_mapI);(iterate 7 exact rfl);omega;rotate_left;(first|omega|exact Nat.zero_lt_one|exact(by simp))));refine j61 ?_;(with_reducible apply AOps.callD (hf:=hn2));(with_reducible assumption);(first|(with_reducible assumption)|(refine TB.gs ?_ (by with_reducible assumption);with_reducible assumption)|(refine TB.gi ?_ (by with_reducible assumption);with_reducible assumption)|exact TB.none _);(iterate 3 exact rfl);(repeat (first|exact trivial|refine⟨rfl,?_⟩));(repeat (first|exact .nil|(refine .cons ?_ ?_;(first|exact .eq rfl rfl|exact .nil _|exact .any _))));exact rfl;exact rfl;(repeat (first|exact trivial|refine⟨rfl,?_⟩|refine⟨obIds_set,?_⟩));(repeat (first|exact trivial|refine⟨rfl,?_⟩|refine⟨obIds_set,?_⟩));(intro ch_ hch_);refine j241 ?_;refine nz ?_;refine j80 ?_)
    (apply endsP;(with_reducible assumption);((exact j51));((exact j42));exact rfl)
   ·clear rest htp hA
    have hk2:=skipY_fn [sL so[n].1,[36]] hs1 hle1 (by simp) h2
    simp only[wordsV,List.map_cons,List.map_nil,mk_sL] at hk2
    have hn2:=numberY_fn (by omega) h3
    unfold SB at hk2 hn2
    rw[← en2] at hk2
    (refine j303 ?_;(focus ((with_reducible apply AOps.index_map);(iterate 7 exact rfl);rotate_left;omega));refine j208 ?_;refine zm ?_;(focus ((with_reducible apply AOps.index_mapI);(iterate 7 exact rfl);omega;rotate_left;(first|omega|exact Nat.zero_lt_one|exact(by simp))));refine j231 ?_;(focus ((with_reducible apply AOps.index_mapI);(iterate 7 exact rfl);omega;rotate_left;(first|omega|exact Nat.zero_lt_one|exact(by simp))));refine zr ?_;refine AOps.geq rfl rfl rfl rfl rfl ?_;refine j340 ?_;refine j122 ?_;refine nz ?_;(with_reducible apply AOps.mkPanic);(iterate 3 exact rfl);kernel_rfl;exact rfl;(intro ch_ hch_);refine j24 ?_;refine j80 ?_)
    (apply endsP;(with_reducible assumption);((exact j51));((exact j42));exact rfl)
   ·clear rest htp hA
    have hk2:=skipY_fn [sL so[n].1,[36]] hs1 hle1 (by simp) h2
    simp only[wordsV,List.map_cons,List.map_nil,mk_sL] at hk2
    have hn2:=numberY_fn (by omega) h3
    unfold SB at hk2 hn2
    rw[← en2] at hk2
    (refine j303 ?_;(focus ((with_reducible apply AOps.index_map);(iterate 7 exact rfl);rotate_left;omega));refine j208 ?_;refine zm ?_;(focus ((with_reducible apply AOps.index_mapI);(iterate 7 exact rfl);omega;rotate_left;(first|omega|exact Nat.zero_lt_one|exact(by simp))));refine j231 ?_;(focus ((with_reducible apply AOps.index_mapI);(iterate 7 exact rfl);omega;rotate_left;(first|omega|exact Nat.zero_lt_one|exact(by simp))));refine j184 ?_;(with_reducible apply AOps.appendS);exact rfl;(first|exact .pv rfl|exact .own rfl|exact .nil rfl);(iterate 9 exact rfl);(first|omega|(simp only[List.length_map,List.length_append,List.length_cons,List.length_nil,List.length_drop,List.length_take,List.length_set,chunk_len];omega));refine nz ?_;refine j136 ?_)
    exact j60
 ·obtain rfl:k=ks.length:=by omega
  rw[List.drop_length] at htp
  cases htp
end Go.Ab
/- Chapter 34:the scanner's lines,walked. -/
namespace Go.Ab
open Go Go.Proofs
open Nat (reduceAdd reduceSub)
set_option maxRecDepth 20000
set_option maxHeartbeats 4000000
theorem fieldP_s {so:List SortM} {at' ks ts:List Int} {n:Nat} {s:Bt}:fieldP so at' ks (n+1) ts s=match cutT [125,10] s with
  |some r=>some (ts,r)
  |none=>(if ts=[] then some s else cutT [44,32] s).bind fun s=>(tupP so at' ks [] s).bind fun q=>fieldP so at' ks n (ts++ [rnk at' q.1]) q.2:=rfl
theorem fieldP_len {so:List SortM} {at' ks:List Int}:∀{n:Nat} {ts q:List Int} {s r:Bt},fieldP so at' ks n ts s=some (q,r)→r.length≤s.length
 |0,ts,q,s,r,h=>by cases h
 |n+1,ts,q,s,r,h=>by
  rw[fieldP_s] at h
  cases h1:cutT [125,10] s with
  |some r'=>
   rw[h1] at h
   cases h
   exact cut_len h1
  |none=>
   rw[h1] at h
   simp only at h
   obtain⟨s1,h2,h⟩:=Option.bind_eq_some_iff.1 h
   obtain⟨⟨q1,s2⟩,h3,h⟩:=Option.bind_eq_some_iff.1 h
   have:=fieldP_len h
   have:=(tupP_len h3).1
   have l1:s1.length≤s.length:=by
    split at h2
    ·cases h2;exact Nat.le_refl _
    ·exact cut_len h2
   simp only at*
   omega
theorem lineP_len {so:List SortM} {at':List Int} {f:FieldM} {s r:Bt} {q:RelM} (h:lineP so at' f s=some (q,r)):r.length≤s.length:=by
 unfold lineP at h
 obtain⟨s1,h1,h⟩:=Option.bind_eq_some_iff.1 h
 obtain⟨⟨q1,s2⟩,h2,h⟩:=Option.map_eq_some_iff.1 h
 cases h
 have:=skip_len h1
 have:=fieldP_len h2
 simp only at*
 omega
attribute [local irreducible] AW AOps thenD inBlockD AR iterEnds roundEndsN inlEnds noGotoD EndsX EndsP byteAt
theorem fieldY_fn (sp:SpecM) (f:FieldM) (at':List Int) (st:Int) {s r:Bt} {q:RelM} (h5:SmA at') (hsum:at'.sum≤1000) (hl:sp.sorts.length=at'.length) (hks:insB sp.sorts.length f.sorts=true) (hkl:f.sorts.length≤1000) (hz:∀q∈sp.sorts,q.1.size≤1000) (hfz:f.name.size≤1000) (hs:s.length≤1000000) (h:lineP sp.sorts at' f s=some (q,r)):
  FnX Tryz.prog 67 4 (SB s) [.ptr 3 0,spc sp,scp at' st,fld f] (SB r) (relA q):=by
 unfold lineP at h
 obtain⟨s1,h1,hA⟩:=Option.bind_eq_some_iff.1 h
 obtain⟨⟨ts0,s2⟩,h2,hB⟩:=Option.map_eq_some_iff.1 hA
 cases hB
 clear h hA
 have hk0:=skipY_fn [sL f.name,[32,61,32,123]] (by omega) (by rintro w hw;simp only[List.mem_cons,List.not_mem_nil,or_false] at hw;rcases hw with rfl|rfl<;>simp [mk_len]<;>omega) (by simp) h1
 simp only[wordsV,List.map_cons,List.map_nil,mk_sL] at hk0
 have l1:=skip_len h1
 unfold SB at hk0 ⊢
 have htup:=fun {t r:Bt} {q:List Int} (ht:t.length≤1000000000) (hh:tupP sp.sorts at' f.sorts [] t=some (q,r))=>tupleY_fn sp f at' st h5 hsum hl hks hkl hz ht hh
 obtain⟨so,fs,p_,q_⟩:=sp
 obtain⟨nm_,ks,var_⟩:=f
 simp only at hl hks hkl h2 htup hk0 ⊢
 refine FnX.enter (n:=40) Tryz.func67 rfl rfl rfl rfl rfl (by decide) rfl rfl fun g hro_ hwt_=>?_;refine j32 ?_
 (refine j144 ?_;refine zX (hk0) ?_;refine j102 ?_;refine zd ?_;refine zo ?_;refine AW.block ?_)
 (apply AW.loopR [9,8,7,6,5,0,1000] [7,6,5,4] (fun p:Nat×List Int×Bt=>([]:List (Nat×AV))) (fun p:Nat×List Int×Bt=>([(3,some (.box [litS (mkS p.2.2)])),(8,some (.box [litI (ks.length:Nat),.own 12 3 1 (p.2.1.map encI)])),(12,some .row)]:List (Nat×Option Ob))) (fun p:Nat×List Int×Bt=>fieldP so at' ks p.1 p.2.1 p.2.2=some (ts0,s2)∧(p.2.1=[]→p.2.2.length+2≤p.1)∧p.2.2.length+1≤p.1∧p.2.1.length+p.1≤3000000∧p.2.2.length≤1000000) (fun p:Nat×List Int×Bt=>p.1) ((2*s1.length+2,[],s1));(conv=>lhs;simp only[Nf.lpR,Nf.all,Nat.reduceBEq,reduceAdd,reduceSub]);(all_goals skip))
 ·exact⟨h2,fun _=>by show s1.length+2≤2*s1.length+2;omega,by show s1.length+1≤2*s1.length+2;omega,by show 0+(2*s1.length+2)≤3000000;omega,by show s1.length≤1000000;omega⟩
 ·exact j75
 rintro⟨m,ts,t⟩ ⟨hf,hm0,hm1,hm2,ht⟩
 simp only at hf hm0 hm1 hm2 ht ⊢
 obtain⟨m,rfl⟩:∃k,m=k+1:=⟨m - 1,by omega⟩
 rw[fieldP_s] at hf
 cases hc:cutT [125,10] t with
 |some r'=>
  rw[hc] at hf
  cases hf
  have hy:=tryY_fn (w:=[125,10]) (by omega) (by simp) hc
  unfold SB at hy
  (refine zo ?_;refine j86 ?_;refine zX (hy) ?_;refine j102 ?_;refine AOps.not rfl rfl rfl ?_;refine zd ?_;refine j44 ?_;refine j324 ?_;refine j155 ?_;refine j328 ?_)
  (apply endsX_ret;((exact Res.one (.cell rfl rfl rfl rfl)));((refine⟨WV.aggL (by repeat (first|exact True.intro|refine And.intro (.eq rfl rfl) ?_|refine And.intro (.freeze rfl) ?_|refine And.intro (.nilpv _) ?_)),?_⟩;exact j51));((exact j111));exact rfl)
 |none=>
  rw[hc] at hf
  simp only at hf
  obtain⟨t1,e1,hA⟩:=Option.bind_eq_some_iff.1 hf
  obtain⟨⟨q1,t2⟩,e2,hB⟩:=Option.bind_eq_some_iff.1 hA
  clear hf hA
  simp only at hB
  have hn:=tryN_fn (w:=[125,10]) (by omega) (by simp) hc
  obtain⟨k1,k2⟩:=tupP_len e2
  by_cases h0:ts=[]
  ·subst h0
   rw[if_pos rfl] at e1
   cases e1
   have hz0:=hm0 rfl
   have hT:=htup (by omega) e2
   unfold SB at hn hT
   (refine j50 ?_;refine j133 ?_;refine j253 ?_;show AOps .held _ _ _ [_,_,_,_] _ _;refine j234 ?_;intro k_ hk_;refine j240 ?_;apply AR.cut [0,5,4,3,2,1,6,7];intro hJ_0;apply AR.cut [0,5,4,3,2,1,6];intro hJ_1;(refine AR.step2L (i:=1) (j:=6) rfl (by kernel_rfl) rfl rfl (by kernel_rfl) ?_ ?_<;>intro g_ hgro_ hwt2_);refine zb ?_;refine j6 ?_;refine j229 ?_;intro g_ hgro_ hwt2_;refine zX (hT) ?_;refine j102 ?_;refine j18 ?_;exact AR.perm (by kernel_rfl) hJ_1;refine zX (hT) ?_;refine j102 ?_;refine j6 ?_;(refine AR.step2LL (i:=1) (j:=7) rfl (by kernel_rfl) rfl rfl (by kernel_rfl) ?_ ?_<;>intro g_ hgro_ hwt2_);refine zb ?_;refine j204 ?_;refine AR.meet hJ_1 (by kernel_rfl) (fun g_=>weak rfl ?_ ?_ rfl);(iterate 21 refine⟨.eq rfl rfl,?_⟩);exact trivial;exact j19;refine j283 ?_;intro g_ hgro_ hwt2_;refine zb ?_;refine j18 ?_;exact AR.perm (by kernel_rfl) hJ_0;refine j228 ?_;intro g_ hgro_ hwt2_;exact j320;refine j227 ?_;intro g_ hgro_ hwt2_;(with_reducible apply AOps.appendS);exact rfl;(first|exact .pv rfl|exact .own rfl|exact .nil rfl);(iterate 9 exact rfl);(first|omega|(simp only[List.length_map,List.length_append,List.length_cons,List.length_nil,List.length_drop,List.length_take,List.length_set,chunk_len];omega));refine nz ?_;refine j6 ?_;refine j120 ?_;intro g_ hgro_ hwt2_;refine j181 ?_;intro g_ hgro_ hwt2_;refine j188 ?_;refine j96 ?_;refine j266 ?_)
   all_goals exact⟨(m,_,t2),⟨hB,fun e=>by simp at e,by show t2.length+1≤m;omega,by simp;omega,by show t2.length≤1000000;omega⟩,(by show m<m+1;omega),weak rfl (by(exact j183)) (by(exact j9)) rfl⟩
  ·rw[if_neg h0] at e1
   have k3:=cut_lt e1
   simp only[List.length_cons,List.length_nil] at k3
   have hk1:=skipY_fn [[44,32]] (by omega) (by simp) (by simp) (show skipT [[44,32]] t=some t1 by unfold skipT;rw[e1];rfl)
   simp only[wordsV,List.map_cons,List.map_nil] at hk1
   have hT:=htup (by omega) e2
   have hpos:0<ts.length:=List.length_pos_iff.2 h0
   unfold SB at hn hk1 hT
   (refine j50 ?_;refine j149 ?_;refine zd ?_;refine j253 ?_;show AOps .held _ _ _ [_,_,_,_] _ _;refine j234 ?_;intro k_ hk_;refine j240 ?_;apply AR.cut [0,5,4,3,2,1,6,7];intro hJ_0;apply AR.cut [0,5,4,3,2,1,6];intro hJ_1;(refine AR.step2L (i:=1) (j:=6) rfl (by kernel_rfl) rfl rfl (by kernel_rfl) ?_ ?_<;>intro g_ hgro_ hwt2_);refine zb ?_;refine j6 ?_;refine j229 ?_;intro g_ hgro_ hwt2_;refine zX (hT) ?_;refine j102 ?_;refine j18 ?_;refine AR.gc [3,8,12,7,6,5,4] rfl ?_;refine j90 ?_;exact AR.perm (by kernel_rfl) hJ_1;refine zX (hT) ?_;refine j102 ?_;refine j6 ?_;(refine AR.step2LL (i:=1) (j:=7) rfl (by kernel_rfl) rfl rfl (by kernel_rfl) ?_ ?_<;>intro g_ hgro_ hwt2_);refine zb ?_;refine j204 ?_;refine AR.meet hJ_1 (by kernel_rfl) (fun g_=>weak rfl ?_ ?_ rfl);(iterate 24 refine⟨.eq rfl rfl,?_⟩);exact trivial;exact j19;refine j283 ?_;intro g_ hgro_ hwt2_;refine zb ?_;refine j18 ?_;refine AR.gc [14,3,8,12,7,6,5,4] rfl ?_;refine j90 ?_;exact AR.perm (by kernel_rfl) hJ_0;refine j228 ?_;intro g_ hgro_ hwt2_;exact j310;refine j227 ?_;intro g_ hgro_ hwt2_;(with_reducible apply AOps.appendS);exact rfl;(first|exact .pv rfl|exact .own rfl|exact .nil rfl);(iterate 9 exact rfl);(first|omega|(simp only[List.length_map,List.length_append,List.length_cons,List.length_nil,List.length_drop,List.length_take,List.length_set,chunk_len];omega));refine nz ?_;refine j6 ?_;refine j120 ?_;intro g_ hgro_ hwt2_;refine j181 ?_;intro g_ hgro_ hwt2_;refine j188 ?_;refine j96 ?_;refine j266 ?_)
   all_goals exact⟨(m,_,t2),⟨hB,fun e=>by simp at e,by show t2.length+1≤m;omega,by simp;omega,by show t2.length≤1000000;omega⟩,(by show m<m+1;omega),weak rfl (by(exact j183)) (by(exact j9)) rfl⟩
end Go.Ab
/- Chapter 34:the scanner's lines where the text does not fit,walked. -/
namespace Go.Ab
open Go Go.Proofs
open Nat (reduceAdd reduceSub)
set_option maxRecDepth 20000
set_option maxHeartbeats 4000000
attribute [local irreducible] AW AOps thenD inBlockD AR iterEnds roundEndsN inlEnds noGotoD EndsX EndsP onlyP byteAt
theorem fieldN_fn (sp:SpecM) (f:FieldM) (at':List Int) (st:Int) {s:Bt} (h5:SmA at') (hsum:at'.sum≤1000) (hl:sp.sorts.length=at'.length) (hks:insB sp.sorts.length f.sorts=true) (hkl:f.sorts.length≤1000) (hz:∀q∈sp.sorts,q.1.size≤1000) (hfz:f.name.size≤1000) (hs:s.length≤1000000) (h:lineP sp.sorts at' f s=none):
  FnD errT Tryz.prog 60 67 4 (SB s) [.ptr 3 0,spc sp,scp at' st,fld f] SX:=by
 unfold lineP at h
 have hle:∀w∈ [sL f.name,[32,61,32,123]],w.length≤1000000000:=by rintro w hw;simp only[List.mem_cons,List.not_mem_nil,or_false] at hw;rcases hw with rfl|rfl<;>simp [mk_len]<;>omega
 rcases bind_none h with h1|⟨s1,h1,hA⟩
 ·have hk0:=skipN_fn errT [sL f.name,[32,61,32,123]] (by omega) hle (by simp) h1
  simp only[wordsV,List.map_cons,List.map_nil,mk_sL] at hk0
  unfold SB SX at hk0
  unfold SB SX
  obtain⟨so,fs,p_,q_⟩:=sp
  obtain⟨nm_,ks,var_⟩:=f
  simp only at hl hks hkl hk0 ⊢
  clear h h1
  refine FnD.enter (n:=40) Tryz.func67 rfl rfl rfl rfl (by decide) rfl rfl fun g hro_ hwt_ hT=>?_;refine j32 ?_
  (refine j144 ?_;(with_reducible apply AOps.callD (hf:=hk0));(with_reducible assumption);(first|(with_reducible assumption)|(refine TB.gs ?_ (by with_reducible assumption);with_reducible assumption)|(refine TB.gi ?_ (by with_reducible assumption);with_reducible assumption)|exact TB.none _);(iterate 3 exact rfl);(repeat (first|exact trivial|refine⟨rfl,?_⟩));(repeat (first|exact .nil|(refine .cons ?_ ?_;(first|exact .eq rfl rfl|exact .nil _|exact .any _))));exact rfl;exact rfl;(repeat (first|exact trivial|refine⟨rfl,?_⟩|refine⟨obIds_set,?_⟩));(repeat (first|exact trivial|refine⟨rfl,?_⟩|refine⟨obIds_set,?_⟩));(intro ch_ hch_);refine j241 ?_;refine thenD_pan ?_)
  (apply endsP;(with_reducible assumption);((exact j51));((exact j42));exact rfl)
 have h2:=Option.map_eq_none_iff.1 hA
 clear h hA
 have hk0:=skipY_fn [sL f.name,[32,61,32,123]] (by omega) hle (by simp) h1
 simp only[wordsV,List.map_cons,List.map_nil,mk_sL] at hk0
 have l1:=skip_len h1
 unfold SB at hk0
 unfold SB SX
 have htup:=fun {t r:Bt} {q:List Int} (ht:t.length≤1000000000) (hh:tupP sp.sorts at' f.sorts [] t=some (q,r))=>tupleY_fn sp f at' st h5 hsum hl hks hkl hz ht hh
 have htuN:=fun {t:Bt} (ht:t.length≤1000000000) (hh:tupP sp.sorts at' f.sorts [] t=none)=>tupleN_fn sp f at' st h5 hsum hl hks hkl hz ht hh
 obtain⟨so,fs,p_,q_⟩:=sp
 obtain⟨nm_,ks,var_⟩:=f
 simp only at hl hks hkl h2 htup htuN hk0 ⊢
 refine FnD.enter (n:=40) Tryz.func67 rfl rfl rfl rfl (by decide) rfl rfl fun g hro_ hwt_ hT=>?_;refine j32 ?_
 (refine j144 ?_;refine zX (hk0) ?_;refine j102 ?_;refine zd ?_;refine zo ?_;refine AW.block ?_)
 (apply AW.loopR [9,8,7,6,5,0,1000] [7,6,5,4] (fun p:Nat×List Int×Bt=>([]:List (Nat×AV))) (fun p:Nat×List Int×Bt=>([(3,some (.box [litS (mkS p.2.2)])),(8,some (.box [litI (ks.length:Nat),.own 12 3 1 (p.2.1.map encI)])),(12,some .row)]:List (Nat×Option Ob))) (fun p:Nat×List Int×Bt=>fieldP so at' ks p.1 p.2.1 p.2.2=none∧(p.2.1=[]→p.2.2.length+2≤p.1)∧p.2.2.length+1≤p.1∧p.2.1.length+p.1≤3000000∧p.2.2.length≤1000000) (fun p:Nat×List Int×Bt=>p.1) ((2*s1.length+2,[],s1));(conv=>lhs;simp only[Nf.lpR,Nf.all,Nat.reduceBEq,reduceAdd,reduceSub]);(all_goals skip))
 ·exact⟨h2,fun _=>by show s1.length+2≤2*s1.length+2;omega,by show s1.length+1≤2*s1.length+2;omega,by show 0+(2*s1.length+2)≤3000000;omega,by show s1.length≤1000000;omega⟩
 ·exact j75
 rintro⟨m,ts,t⟩ ⟨hf,hm0,hm1,hm2,ht⟩
 simp only at hf hm0 hm1 hm2 ht ⊢
 obtain⟨m,rfl⟩:∃k,m=k+1:=⟨m - 1,by omega⟩
 rw[fieldP_s] at hf
 cases hc:cutT [125,10] t with
 |some r'=>
  rw[hc] at hf
  cases hf
 |none=>
  rw[hc] at hf
  simp only at hf
  have hn:=tryN_fn (w:=[125,10]) (by omega) (by simp) hc
  unfold SB at hn
  by_cases h0:ts=[]
  ·subst h0
   rw[if_pos rfl,Option.bind_some] at hf
   have hz0:=hm0 rfl
   rcases bind_none hf with e2|⟨⟨q1,t2⟩,e2,hB⟩
   ·have hT:=htuN (by omega) e2
    unfold SB SX at hT
    clear hf
    (refine j50 ?_;refine j133 ?_;(refine j335 ?_;show AOps .held _ _ _ (List.cons _ (List.cons _ (List.cons _ (List.cons _ (List.cons _ (List.cons _ List.nil)))))) _ _);refine j83 ?_;refine j234 ?_;intro k_ hk_;((with_reducible apply AR.stepD (i:=6));exact rfl;kernel_rfl;exact rfl;(intro g_ hgro_ hwt2_));(with_reducible apply AOps.callD (hf:=hT));(with_reducible assumption);(first|(with_reducible assumption)|(refine TB.gs ?_ (by with_reducible assumption);with_reducible assumption)|(refine TB.gi ?_ (by with_reducible assumption);with_reducible assumption)|exact TB.none _);(iterate 3 exact rfl);(repeat (first|exact trivial|refine⟨rfl,?_⟩));(repeat (first|exact .nil|(refine .cons ?_ ?_;(first|exact .eq rfl rfl|exact .nil _|exact .any _))));exact rfl;exact rfl;(repeat (first|exact trivial|refine⟨rfl,?_⟩|refine⟨obIds_set,?_⟩));(repeat (first|exact trivial|refine⟨rfl,?_⟩|refine⟨obIds_set,?_⟩));(intro ch_ hch_);refine j241 ?_;refine onlyP_1 ?_;(iterate 2 refine j254 ?_))
    (apply endsP;(with_reducible assumption);((exact j51));((exact j42));exact rfl)
   ·obtain⟨k1,k2⟩:=tupP_len e2
    have hT:=htup (by omega) e2
    unfold SB at hT
    clear hf
    (refine j50 ?_;refine j133 ?_;refine j253 ?_;show AOps .held _ _ _ [_,_,_,_] _ _;refine j234 ?_;intro k_ hk_;refine j240 ?_;apply AR.cut [0,5,4,3,2,1,6,7];intro hJ_0;apply AR.cut [0,5,4,3,2,1,6];intro hJ_1;(refine AR.step2L (i:=1) (j:=6) rfl (by kernel_rfl) rfl rfl (by kernel_rfl) ?_ ?_<;>intro g_ hgro_ hwt2_);refine zb ?_;refine j6 ?_;refine j229 ?_;intro g_ hgro_ hwt2_;refine zX (hT) ?_;refine j102 ?_;refine j18 ?_;exact AR.perm (by kernel_rfl) hJ_1;refine zX (hT) ?_;refine j102 ?_;refine j6 ?_;(refine AR.step2LL (i:=1) (j:=7) rfl (by kernel_rfl) rfl rfl (by kernel_rfl) ?_ ?_<;>intro g_ hgro_ hwt2_);refine zb ?_;refine j204 ?_;refine AR.meet hJ_1 (by kernel_rfl) (fun g_=>weak rfl ?_ ?_ rfl);(iterate 21 refine⟨.eq rfl rfl,?_⟩);exact trivial;exact j19;refine j283 ?_;intro g_ hgro_ hwt2_;refine zb ?_;refine j18 ?_;exact AR.perm (by kernel_rfl) hJ_0;refine j228 ?_;intro g_ hgro_ hwt2_;exact j320;refine j227 ?_;intro g_ hgro_ hwt2_;(with_reducible apply AOps.appendS);exact rfl;(first|exact .pv rfl|exact .own rfl|exact .nil rfl);(iterate 9 exact rfl);(first|omega|(simp only[List.length_map,List.length_append,List.length_cons,List.length_nil,List.length_drop,List.length_take,List.length_set,chunk_len];omega));refine nz ?_;refine j6 ?_;refine j120 ?_;intro g_ hgro_ hwt2_;refine j181 ?_;intro g_ hgro_ hwt2_;refine j188 ?_;refine j96 ?_;refine j266 ?_)
    all_goals exact⟨(m,_,t2),⟨hB,fun e=>by simp at e,by show t2.length+1≤m;omega,by simp;omega,by show t2.length≤1000000;omega⟩,(by show m<m+1;omega),weak rfl (by(exact j183)) (by(exact j9)) rfl⟩
  ·rw[if_neg h0] at hf
   have hpos:0<ts.length:=List.length_pos_iff.2 h0
   rcases bind_none hf with e1|⟨t1,e1,hA⟩
   ·have hk1:=skipN_fn errT [[44,32]] (by omega) (by simp) (by simp) (show skipT [[44,32]] t=none by unfold skipT;rw[e1];rfl)
    simp only[wordsV,List.map_cons,List.map_nil] at hk1
    unfold SB SX at hk1
    clear hf
    (refine j50 ?_;refine zc ?_;refine j98 ?_;refine j15 ?_;(with_reducible apply AOps.callD (hf:=hk1));(with_reducible assumption);(first|(with_reducible assumption)|(refine TB.gs ?_ (by with_reducible assumption);with_reducible assumption)|(refine TB.gi ?_ (by with_reducible assumption);with_reducible assumption)|exact TB.none _);(iterate 3 exact rfl);(repeat (first|exact trivial|refine⟨rfl,?_⟩));(repeat (first|exact .nil|(refine .cons ?_ ?_;(first|exact .eq rfl rfl|exact .nil _|exact .any _))));exact rfl;exact rfl;(repeat (first|exact trivial|refine⟨rfl,?_⟩|refine⟨obIds_set,?_⟩));(repeat (first|exact trivial|refine⟨rfl,?_⟩|refine⟨obIds_set,?_⟩));(intro ch_ hch_);refine j241 ?_;refine thenD_pan ?_;(iterate 2 refine j254 ?_))
    (apply endsP;(with_reducible assumption);((exact j51));((exact j42));exact rfl)
   have k3:=cut_lt e1
   simp only[List.length_cons,List.length_nil] at k3
   have hk1:=skipY_fn [[44,32]] (by omega) (by simp) (by simp) (show skipT [[44,32]] t=some t1 by unfold skipT;rw[e1];rfl)
   simp only[wordsV,List.map_cons,List.map_nil] at hk1
   unfold SB at hk1
   rcases bind_none hA with e2|⟨⟨q1,t2⟩,e2,hB⟩
   ·have hT:=htuN (by omega) e2
    unfold SB SX at hT
    clear hf hA
    (refine j50 ?_;refine j149 ?_;refine zd ?_;(refine j335 ?_;show AOps .held _ _ _ (List.cons _ (List.cons _ (List.cons _ (List.cons _ (List.cons _ (List.cons _ List.nil)))))) _ _);refine j83 ?_;refine j234 ?_;intro k_ hk_;((with_reducible apply AR.stepD (i:=6));exact rfl;kernel_rfl;exact rfl;(intro g_ hgro_ hwt2_));(with_reducible apply AOps.callD (hf:=hT));(with_reducible assumption);(first|(with_reducible assumption)|(refine TB.gs ?_ (by with_reducible assumption);with_reducible assumption)|(refine TB.gi ?_ (by with_reducible assumption);with_reducible assumption)|exact TB.none _);(iterate 3 exact rfl);(repeat (first|exact trivial|refine⟨rfl,?_⟩));(repeat (first|exact .nil|(refine .cons ?_ ?_;(first|exact .eq rfl rfl|exact .nil _|exact .any _))));exact rfl;exact rfl;(repeat (first|exact trivial|refine⟨rfl,?_⟩|refine⟨obIds_set,?_⟩));(repeat (first|exact trivial|refine⟨rfl,?_⟩|refine⟨obIds_set,?_⟩));(intro ch_ hch_);refine j241 ?_;refine onlyP_1 ?_;(iterate 2 refine j254 ?_))
    (apply endsP;(with_reducible assumption);((exact j51));((exact j42));exact rfl)
   ·obtain⟨k1,k2⟩:=tupP_len e2
    have hT:=htup (by omega) e2
    unfold SB at hT
    clear hf hA
    (refine j50 ?_;refine j149 ?_;refine zd ?_;refine j253 ?_;show AOps .held _ _ _ [_,_,_,_] _ _;refine j234 ?_;intro k_ hk_;refine j240 ?_;apply AR.cut [0,5,4,3,2,1,6,7];intro hJ_0;apply AR.cut [0,5,4,3,2,1,6];intro hJ_1;(refine AR.step2L (i:=1) (j:=6) rfl (by kernel_rfl) rfl rfl (by kernel_rfl) ?_ ?_<;>intro g_ hgro_ hwt2_);refine zb ?_;refine j6 ?_;refine j229 ?_;intro g_ hgro_ hwt2_;refine zX (hT) ?_;refine j102 ?_;refine j18 ?_;refine AR.gc [3,8,12,7,6,5,4] rfl ?_;refine j90 ?_;exact AR.perm (by kernel_rfl) hJ_1;refine zX (hT) ?_;refine j102 ?_;refine j6 ?_;(refine AR.step2LL (i:=1) (j:=7) rfl (by kernel_rfl) rfl rfl (by kernel_rfl) ?_ ?_<;>intro g_ hgro_ hwt2_);refine zb ?_;refine j204 ?_;refine AR.meet hJ_1 (by kernel_rfl) (fun g_=>weak rfl ?_ ?_ rfl);(iterate 24 refine⟨.eq rfl rfl,?_⟩);exact trivial;exact j19;refine j283 ?_;intro g_ hgro_ hwt2_;refine zb ?_;refine j18 ?_;refine AR.gc [14,3,8,12,7,6,5,4] rfl ?_;refine j90 ?_;exact AR.perm (by kernel_rfl) hJ_0;refine j228 ?_;intro g_ hgro_ hwt2_;exact j310;refine j227 ?_;intro g_ hgro_ hwt2_;(with_reducible apply AOps.appendS);exact rfl;(first|exact .pv rfl|exact .own rfl|exact .nil rfl);(iterate 9 exact rfl);(first|omega|(simp only[List.length_map,List.length_append,List.length_cons,List.length_nil,List.length_drop,List.length_take,List.length_set,chunk_len];omega));refine nz ?_;refine j6 ?_;refine j120 ?_;intro g_ hgro_ hwt2_;refine j181 ?_;intro g_ hgro_ hwt2_;refine j188 ?_;refine j96 ?_;refine j266 ?_)
    all_goals exact⟨(m,_,t2),⟨hB,fun e=>by simp at e,by show t2.length+1≤m;omega,by simp;omega,by show t2.length≤1000000;omega⟩,(by show m<m+1;omega),weak rfl (by(exact j183)) (by(exact j9)) rfl⟩
end Go.Ab
/- Chapter 34:the scanner's whole text,walked. -/
namespace Go.Ab
open Go Go.Proofs
open Nat (reduceAdd reduceSub)
set_option maxRecDepth 20000
set_option maxHeartbeats 4000000
theorem atomsP_c {q:SortM} {so:List SortM} {acc:List Int} {s:Bt}:atomsP (q::so) acc s=(skipT [[32],sL q.1,[61]] s).bind fun s=>(numT s).bind fun v=>atomsP so (acc++ [v.1]) v.2:=rfl
theorem linesP_c {so:List SortM} {at':List Int} {f:FieldM} {fs:List FieldM} {acc:List RelM} {s:Bt}:linesP so at' (f::fs) acc s=(lineP so at' f s).bind fun q=>linesP so at' fs (acc++ [q.1]) q.2:=rfl
theorem statesP_s {so:List SortM} {at':List Int} {fs:List FieldM} {n:Nat} {i:Int} {acc:List (List RelM)} {s:Bt}:statesP so at' fs (n+1) i acc s=(skipT [[115,116,97,116,101,32],digT i,[10]] s).bind fun s=>(linesP so at' fs [] s).bind fun q=>statesP so at' fs n (i+1) (acc++ [q.1]) q.2:=rfl
theorem atomsP_len:∀{so:List SortM} {acc q:List Int} {s r:Bt},atomsP so acc s=some (q,r)→r.length≤s.length∧q.length=acc.length+so.length
 |[],acc,q,s,r,h=>by cases h;exact⟨Nat.le_refl _,by simp⟩
 |x::so,acc,q,s,r,h=>by
  rw[atomsP_c] at h
  obtain⟨s1,h1,h⟩:=Option.bind_eq_some_iff.1 h
  obtain⟨⟨v,s2⟩,h2,h⟩:=Option.bind_eq_some_iff.1 h
  have:=skip_len h1
  have:=(num_spec h2).2.2
  obtain⟨h3,h4⟩:=atomsP_len h
  simp only at*
  refine⟨by omega,?_⟩
  rw[h4];simp;omega
theorem linesP_len {so:List SortM} {at':List Int}:∀{fs:List FieldM} {acc q:List RelM} {s r:Bt},linesP so at' fs acc s=some (q,r)→r.length≤s.length
 |[],acc,q,s,r,h=>by cases h;exact Nat.le_refl _
 |f::fs,acc,q,s,r,h=>by
  rw[linesP_c] at h
  obtain⟨⟨v,s2⟩,h1,h⟩:=Option.bind_eq_some_iff.1 h
  have:=lineP_len h1
  have:=linesP_len h
  simp only at*
  omega
theorem dig_len (i:Nat) (h:i<100):(digT (i:Int)).length≤2:=dec_small i h
structure SpB (sp:SpecM):Prop where
 so:sp.sorts.length≤1000
 nz:∀q∈sp.sorts,q.1.size≤1000
 fs:sp.fields.length≤1000
 fz:∀f∈sp.fields,f.name.size≤1000∧f.sorts.length≤1000
attribute [local irreducible] AW AOps thenD inBlockD AR iterEnds roundEndsN inlEnds noGotoD EndsX EndsP byteAt
theorem modelY_fn (sp:SpecM) (hb:SpB sp) {s r:Bt} {m:ModM} (hs:s.length≤1000000) (h:modelP sp s=some (m,r)):
  FnX Tryz.prog 24 4 (SB s) [.ptr 3 0,spc sp] (SB r) (mdl m):=by
 unfold modelP at h
 obtain⟨t1,e1,hA⟩:=Option.bind_eq_some_iff.1 h
 obtain⟨⟨ats,t2⟩,e2,hB⟩:=Option.bind_eq_some_iff.1 hA
 obtain⟨t3,e3,hC⟩:=Option.bind_eq_some_iff.1 hB
 obtain⟨⟨stv,t4⟩,e4,hD⟩:=Option.bind_eq_some_iff.1 hC
 obtain⟨t5,e5,hE⟩:=Option.bind_eq_some_iff.1 hD
 obtain⟨⟨lpv,t6⟩,e6,hF⟩:=Option.bind_eq_some_iff.1 hE
 obtain⟨t7,e7,hG⟩:=Option.bind_eq_some_iff.1 hF
 clear h hA hB hC hD hE hF
 simp only at e3 e4 e5 e6 e7 hG
 split at hG
 ·rename_i hcond
  obtain⟨⟨sts0,t8⟩,e8,hH⟩:=Option.map_eq_some_iff.1 hG
  clear hG
  cases hH
  obtain⟨hsc,hso⟩:=hcond
  have l1:=skip_len e1
  obtain⟨l2,l2'⟩:=atomsP_len e2
  have l3:=skip_len e3
  have l4:=num_spec e4
  have l5:=skip_len e5
  have l6:=num_spec e6
  have l7:=skip_len e7
  obtain⟨b1,b2,b3,b4,b5,b6,b7⟩:=scopeOk_spec hsc
  have hval:=uValid_fn sp ats stv
  rw[hsc] at hval
  obtain⟨hq1,hq2,hq3,hq4⟩:=hb
  have k1:=skipY_fn [[115,99,111,112,101]] (by omega) (by simp) (by simp) e1
  simp only[wordsV,List.map_cons,List.map_nil,mk_sL] at k1
  unfold SB at k1
  have k3:=skipY_fn [[32,115,116,101,112,115,61]] (by omega) (by simp) (by simp) e3
  simp only[wordsV,List.map_cons,List.map_nil,mk_sL] at k3
  unfold SB at k3
  have k5:=skipY_fn [[32,108,111,111,112,61]] (by omega) (by simp) (by simp) e5
  simp only[wordsV,List.map_cons,List.map_nil,mk_sL] at k5
  unfold SB at k5
  have k7:=skipY_fn [[10]] (by omega) (by simp) (by simp) e7
  simp only[wordsV,List.map_cons,List.map_nil,mk_sL] at k7
  unfold SB at k7
  have k4:=numberY_fn (by omega) e4
  have k6:=numberY_fn (by omega) e6
  unfold SB at k4 k6 ⊢
  have hfld:=fun {t r:Bt} {q:RelM} (f:FieldM) (hf:f∈sp.fields) (ht:t.length≤1000000) (hh:lineP sp.sorts ats f t=some (q,r))=>fieldY_fn sp f ats stv b7 (by omega) b2.symm (List.all_eq_true.1 hso _ hf) (hq4 _ hf).2 hq2 (hq4 _ hf).1 ht hh
  obtain⟨so,fs,p_,q_⟩:=sp
  simp only at hq1 hq2 hq3 hq4 e2 e8 hso hval hfld b1 b2 hsc ⊢
  refine FnX.enter (n:=129) Tryz.func24 rfl rfl rfl rfl rfl (by decide) rfl rfl fun g hro_ hwt_=>?_;refine j32 ?_
  (refine j319 ?_;refine zX (k1) ?_;refine j292 ?_;refine j62 ?_;refine j97 ?_)
  (refine nz ?_;apply AW.loopR [21,20,5,4,3,0,1000] [5,4] (fun p:Nat×List Int×Bt=>([(22,litI p.1)]:List (Nat×AV))) (fun p:Nat×List Int×Bt=>([(3,some (.box [litS (mkS p.2.2)])),(6,some (.box [.own 20 3 1 (p.2.1.map encI),.pv (.lit (.int .i64 0)),.pv (.lit (.slice none 0 0)),.pv (.lit (.int .i64 0))])),(20,some .row)]:List (Nat×Option Ob))) (fun p:Nat×List Int×Bt=>p.1≤so.length∧p.2.2.length≤1000000∧p.2.1.length=p.1∧atomsP (so.drop p.1) p.2.1 p.2.2=some (ats,t2)) (fun p:Nat×List Int×Bt=>so.length - p.1) ((0,[],t1));(conv=>lhs;simp only[Nf.lpR,Nf.all,Nat.reduceBEq,reduceAdd,reduceSub]);(all_goals skip))
  ·exact⟨Nat.zero_le _,by show t1.length≤1000000;omega,rfl,e2⟩
  ·exact j78
  rintro⟨k,acc,t⟩ ⟨hk,ht,hac,hP⟩
  simp only at hk ht hac hP ⊢
  by_cases hlt:k<so.length
  ·rw[List.drop_eq_getElem_cons hlt,atomsP_c] at hP
   obtain⟨u1,f1,hA⟩:=Option.bind_eq_some_iff.1 hP
   obtain⟨⟨v,u2⟩,f2,hB⟩:=Option.bind_eq_some_iff.1 hA
   clear hP hA
   have hz:=hq2 _ (List.getElem_mem hlt)
   have g1:=skip_len f1
   have g2:=num_spec f2
   have w1:=skipY_fn [[32],sL so[k].1,[61]] (by omega) (by rintro w hw;simp only[List.mem_cons,List.not_mem_nil,or_false] at hw;rcases hw with rfl|rfl|rfl<;>simp [mk_len]<;>omega) (by simp) f1
   simp only[wordsV,List.map_cons,List.map_nil,mk_sL] at w1
   have w2:=numberY_fn (by omega) f2
   unfold SB at w1 w2
   (refine j7 ?_;(focus ((with_reducible apply AOps.index_map);(iterate 7 exact rfl);rotate_left;omega));refine j237 ?_;refine zX (w1) ?_;refine j102 ?_;refine zd ?_;refine AW.regionM [3] [4] rfl (by assumption) (by kernel_rfl) (by kernel_rfl) rfl ?_;show AOps .held _ _ _ [_] _ _;refine AOps.move_ptr rfl rfl rfl ?_;refine j6 ?_;intro k_ hk_;refine j294 ?_;apply AR.cut [1,0,3,2,4,5];intro hJ_0;apply AR.cut [1,0,3,2,4];intro hJ_1;(refine AR.step2L (i:=2) (j:=4) rfl (by kernel_rfl) rfl rfl (by kernel_rfl) ?_ ?_<;>intro g_ hgro_ hwt2_);refine zb ?_;refine j6 ?_;refine AR.step1LM (i:=4) rfl (by kernel_rfl) rfl (by kernel_rfl) ?_;intro g_ hgro_ hwt2_;refine zX (w2) ?_;refine j102 ?_;refine j18 ?_;refine AR.gc [3,21,6,20,5,4] rfl ?_;refine j90 ?_;exact AR.perm (by kernel_rfl) hJ_1;refine zX (w2) ?_;refine j102 ?_;refine j6 ?_;(refine AR.step2LL (i:=2) (j:=5) rfl (by kernel_rfl) rfl rfl (by kernel_rfl) ?_ ?_<;>intro g_ hgro_ hwt2_);refine zb ?_;exact j296;refine j81 ?_;refine j6 ?_;refine AR.step1LM (i:=2) rfl (by kernel_rfl) rfl (by kernel_rfl) ?_;intro g_ hgro_ hwt2_;refine zb ?_;refine j18 ?_;refine AR.gc [23,3,21,6,20,5,4] rfl ?_;refine j90 ?_;exact AR.perm (by kernel_rfl) hJ_0;refine j333 ?_;intro g_ hgro_ hwt2_;exact j264;refine j229 ?_;intro g_ hgro_ hwt2_;(with_reducible apply AOps.appendS);exact rfl;(first|exact .pv rfl|exact .own rfl|exact .nil rfl);(iterate 9 exact rfl);(first|omega|(simp only[List.length_map,List.length_append,List.length_cons,List.length_nil,List.length_drop,List.length_take,List.length_set,chunk_len];omega));refine nz ?_;refine j6 ?_;refine j228 ?_;intro g_ hgro_ hwt2_;refine AOps.fieldAddrN 33 0 0 rfl rfl rfl rfl ?_;refine j6 ?_;refine j227 ?_;intro g_ hgro_ hwt2_;refine AOps.fieldAddrN 30 0 0 rfl rfl rfl rfl ?_;refine j6 ?_;refine j120 ?_;intro g_ hgro_ hwt2_;refine j188 ?_;refine j96 ?_;refine j8 ?_;refine j279 ?_)
   all_goals exact⟨(k+1,_,u2),⟨by omega,by show u2.length≤1000000;omega,by simp;omega,hB⟩,(by show so.length - (k+1)<so.length - k;omega),weak rfl (by(exact j191)) (by(exact j76)) rfl⟩
  ·obtain rfl:k=so.length:=by omega
   rw[List.drop_length] at hP
   cases hP
   (refine j106 ?_;refine zX (k7) ?_;refine j292 ?_;refine j100 ?_;(with_reducible apply AOps.load_bs);(iterate 3 exact rfl);(repeat' first|exact Sub.nil|apply Sub.take|apply Sub.skip);(iterate 3 exact rfl);refine zA (hval) ?_;refine j82 ?_;refine j29 ?_;refine j130 ?_;refine j47 ?_;refine j97 ?_)
   (refine nz ?_;apply AW.loopR [67,66,5,4,3,0,1000] [3,6,20,5,4] (fun k:Nat=>([(68,litI k)]:List (Nat×AV))) (fun k:Nat=>([]:List (Nat×Option Ob))) (fun k:Nat=>k≤fs.length) (fun k:Nat=>fs.length - k) (0);(conv=>lhs;simp only[Nf.lpR,Nf.all,Nat.reduceBEq,reduceAdd,reduceSub]);(all_goals skip))
   ·exact Nat.zero_le _
   ·exact j77
   ·rintro k hk
    by_cases hlt:k<fs.length
    ·have hin:=List.all_eq_true.1 hso _ (List.getElem_mem hlt)
     have hfl:=(hq4 _ (List.getElem_mem hlt)).2
     (refine j7 ?_;(focus ((with_reducible apply AOps.index_map);(iterate 7 exact rfl);rotate_left;omega));refine j56 ?_;refine zq ?_;refine j57 ?_;refine j97 ?_)
     (refine nz ?_;apply AW.loopR [74,73,68,67,66,5,4,3,0,1000] [3,6,20,5,4] (fun j:Nat=>([(75,litI j)]:List (Nat×AV))) (fun j:Nat=>([]:List (Nat×Option Ob))) (fun j:Nat=>j≤fs[k].sorts.length) (fun j:Nat=>fs[k].sorts.length - j) (0);(conv=>lhs;simp only[Nf.lpR,Nf.all,Nat.reduceBEq,reduceAdd,reduceSub]);(all_goals skip))
     ·exact Nat.zero_le _
     ·exact j68
     rintro j hj
     by_cases hlt2:j<fs[k].sorts.length
     ·have hx:=List.all_eq_true.1 hin _ (List.getElem_mem hlt2)
      simp only[decide_eq_true_eq] at hx
      (refine j7 ?_;(focus ((with_reducible apply AOps.index_map);(iterate 7 exact rfl);rotate_left;omega));refine j356 ?_;refine zs ?_;refine j12 ?_;refine j93 ?_;refine j74 ?_;refine zd ?_;refine zk ?_;refine AW.skip ?_;refine j88 ?_)
      exact⟨j+1,by omega,by omega,weak rfl (by(refine⟨.intE (by first|with_reducible rfl|(rfl)),?_⟩;refine⟨.intE (by first|with_reducible rfl|(rfl)),?_⟩;refine⟨.pvE (by first|with_reducible rfl|(rfl)),?_⟩;(iterate 2 refine⟨.intE (by first|with_reducible rfl|(rfl)),?_⟩);refine⟨.pvE (by first|with_reducible rfl|(rfl)),?_⟩;(iterate 5 refine⟨.eq rfl rfl,?_⟩);exact trivial)) (by(refine⟨.box _ rfl ?_,?_⟩;refine⟨.eq rfl rfl,?_⟩;exact trivial;refine⟨.box _ rfl ?_,?_⟩;refine⟨.ownE (by first|with_reducible rfl|(rfl)) rfl,?_⟩;refine⟨.intE (by first|with_reducible rfl|(rfl)),?_⟩;refine⟨.eq rfl rfl,?_⟩;refine⟨.intE (by first|with_reducible rfl|(rfl)),?_⟩;exact trivial;refine⟨.row rfl,?_⟩;refine⟨.box _ rfl ?_,?_⟩;refine⟨.eq rfl rfl,?_⟩;refine⟨.intE (by first|with_reducible rfl|(rfl)),?_⟩;refine⟨.eq rfl rfl,?_⟩;refine⟨.intE (by first|with_reducible rfl|(rfl)),?_⟩;exact trivial;refine⟨.box _ rfl ?_,?_⟩;(iterate 2 refine⟨.pvE (by first|with_reducible rfl|(rfl)),?_⟩);(iterate 2 refine⟨.eq rfl rfl,?_⟩);(iterate 2 exact trivial))) rfl⟩
     ·(refine j305 ?_;refine j88 ?_)
      exact⟨k+1,by omega,by omega,weak rfl (by(refine⟨.intE (by first|with_reducible rfl|(rfl)),?_⟩;refine⟨.intE (by first|with_reducible rfl|(rfl)),?_⟩;refine⟨.pvE (by first|with_reducible rfl|(rfl)),?_⟩;(iterate 5 refine⟨.eq rfl rfl,?_⟩);exact trivial)) (by(refine⟨.box _ rfl ?_,?_⟩;refine⟨.eq rfl rfl,?_⟩;exact trivial;refine⟨.box _ rfl ?_,?_⟩;refine⟨.ownE (by first|with_reducible rfl|(rfl)) rfl,?_⟩;refine⟨.intE (by first|with_reducible rfl|(rfl)),?_⟩;refine⟨.eq rfl rfl,?_⟩;refine⟨.intE (by first|with_reducible rfl|(rfl)),?_⟩;exact trivial;refine⟨.row rfl,?_⟩;refine⟨.box _ rfl ?_,?_⟩;refine⟨.eq rfl rfl,?_⟩;refine⟨.intE (by first|with_reducible rfl|(rfl)),?_⟩;refine⟨.eq rfl rfl,?_⟩;refine⟨.intE (by first|with_reducible rfl|(rfl)),?_⟩;exact trivial;refine⟨.box _ rfl ?_,?_⟩;(iterate 2 refine⟨.pvE (by first|with_reducible rfl|(rfl)),?_⟩);(iterate 2 refine⟨.eq rfl rfl,?_⟩);(iterate 2 exact trivial))) rfl⟩
    ·obtain rfl:k=fs.length:=by omega
     (refine j46 ?_;refine j130 ?_;refine j64 ?_;refine zb ?_;refine zm ?_;refine zd ?_;refine AW.block ?_)
     (refine nz ?_;apply AW.loopR [95,5,4,3,0,1000] [5,4] (fun p:Nat×List (List RelM)×Bt=>([(96,litI p.1)]:List (Nat×AV))) (fun p:Nat×List (List RelM)×Bt=>([(3,some (.box [litS (mkS p.2.2)])),(6,some (.box [.pv (ints ats),litI stv,.own 21 55 1 (p.2.1.map fun s=>[rels s]),litI lpv])),(21,some .row)]:List (Nat×Option Ob))) (fun p:Nat×List (List RelM)×Bt=>p.1≤stv.toNat∧p.2.2.length≤1000000∧p.2.1.length=p.1∧statesP so ats fs (stv.toNat - p.1) p.1 p.2.1 p.2.2=some (sts0,t8)) (fun p:Nat×List (List RelM)×Bt=>stv.toNat - p.1) ((0,[],t7));(conv=>lhs;simp only[Nf.lpR,Nf.all,Nat.reduceBEq,reduceAdd,reduceSub]);(all_goals skip))
     ·exact⟨Nat.zero_le _,by show t7.length≤1000000;omega,rfl,e8⟩
     ·exact j79
     rintro⟨i,sts,t⟩ ⟨hi,ht,hst,hP⟩
     simp only at hi ht hst hP ⊢
     by_cases hlt:i<stv.toNat
     ·rw[show stv.toNat - i=(stv.toNat - (i+1))+1 by omega,statesP_s] at hP
      obtain⟨u1,f1,hA⟩:=Option.bind_eq_some_iff.1 hP
      obtain⟨⟨ln,u2⟩,f2,hB⟩:=Option.bind_eq_some_iff.1 hA
      clear hP hA
      simp only at hB
      have g1:=skip_len f1
      have g2:=linesP_len f2
      have hdl:=dig_len i (by omega)
      have w1:=skipY_fn [[115,116,97,116,101,32],digT (i:Int),[10]] (by omega) (by rintro w hw;simp only[List.mem_cons,List.not_mem_nil,or_false] at hw;rcases hw with rfl|rfl|rfl<;>first|(simp;done)|omega) (by simp) f1
      simp only[wordsV,List.map_cons,List.map_nil] at w1
      have hit:=itoa_fn (i:Int) (by omega)
      unfold SB at w1
      (refine j359 ?_;refine zX (w1) ?_;refine j102 ?_;refine j180 ?_;refine j37 ?_;refine j47 ?_;refine j97 ?_)
      (refine nz ?_;apply AW.loopR [106,105,96,95,5,4,3,0,1000] [6,21,5,4] (fun p:Nat×List RelM×Bt=>([(107,litI p.1),(13,.own 22 54 2 (p.2.1.map encR))]:List (Nat×AV))) (fun p:Nat×List RelM×Bt=>([(3,some (.box [litS (mkS p.2.2)])),(22,some .row)]:List (Nat×Option Ob))) (fun p:Nat×List RelM×Bt=>p.1≤fs.length∧p.2.2.length≤1000000∧p.2.1.length=p.1∧linesP so ats (fs.drop p.1) p.2.1 p.2.2=some (ln,u2)) (fun p:Nat×List RelM×Bt=>fs.length - p.1) ((0,[],u1));(conv=>lhs;simp only[Nf.lpR,Nf.all,Nat.reduceBEq,reduceAdd,reduceSub]);(all_goals skip))
      ·exact⟨Nat.zero_le _,by show u1.length≤1000000;omega,rfl,f2⟩
      ·exact j66
      rintro⟨k,acc,t⟩ ⟨hk,ht,hac,hP⟩
      simp only at hk ht hac hP ⊢
      by_cases hlt2:k<fs.length
      ·rw[List.drop_eq_getElem_cons hlt2,linesP_c] at hP
       obtain⟨⟨rl,v1⟩,f3,hC⟩:=Option.bind_eq_some_iff.1 hP
       clear hP
       have g3:=lineP_len f3
       have w2:=hfld fs[k] (List.getElem_mem hlt2) ht f3
       unfold SB at w2
       (refine j7 ?_;(focus ((with_reducible apply AOps.index_map);(iterate 7 exact rfl);rotate_left;omega));refine j276 ?_;(with_reducible apply AOps.load_bs);(iterate 3 exact rfl);(repeat' first|exact Sub.nil|apply Sub.take|apply Sub.skip);(iterate 3 exact rfl);refine j27 ?_;refine zX (w2) ?_;refine j102 ?_;refine AOps.bs1a2 rfl rfl rfl rfl rfl rfl rfl rfl rfl ?_;refine nz ?_;(with_reducible apply AOps.appendS);exact rfl;(first|exact .pv rfl|exact .own rfl|exact .nil rfl);(iterate 9 exact rfl);(first|omega|(simp only[List.length_map,List.length_append,List.length_cons,List.length_nil,List.length_drop,List.length_take,List.length_set,chunk_len];omega));refine nz ?_;refine j136 ?_)
       exact⟨(k+1,_,v1),⟨by omega,by show v1.length≤1000000;omega,by simp;omega,hC⟩,(by show fs.length - (k+1)<fs.length - k;omega),weak rfl (by(refine⟨.intE (by first|rfl|(rw[List.map_append];rfl)),?_⟩;refine⟨.ownE (by first|rfl|(rw[List.map_append];rfl)) rfl,?_⟩;refine⟨.intE (by first|rfl|(rw[List.map_append];rfl)),?_⟩;refine⟨.pvE (by first|rfl|(rw[List.map_append];rfl)),?_⟩;refine⟨.intE (by first|rfl|(rw[List.map_append];rfl)),?_⟩;refine⟨.intE (by first|rfl|(rw[List.map_append];rfl)),?_⟩;(iterate 5 refine⟨.eq rfl rfl,?_⟩);exact trivial)) (by(refine⟨.box _ rfl ?_,?_⟩;refine⟨.eq rfl rfl,?_⟩;exact trivial;refine⟨.row rfl,?_⟩;refine⟨.box _ rfl ?_,?_⟩;refine⟨.pvE (by first|rfl|(rw[List.map_append];rfl)),?_⟩;refine⟨.intE (by first|rfl|(rw[List.map_append];rfl)),?_⟩;refine⟨.ownE (by first|rfl|(rw[List.map_append];rfl)) rfl,?_⟩;refine⟨.intE (by first|rfl|(rw[List.map_append];rfl)),?_⟩;exact trivial;refine⟨.row rfl,?_⟩;refine⟨.box _ rfl ?_,?_⟩;refine⟨.eq rfl rfl,?_⟩;refine⟨.intE (by first|rfl|(rw[List.map_append];rfl)),?_⟩;refine⟨.eq rfl rfl,?_⟩;refine⟨.intE (by first|rfl|(rw[List.map_append];rfl)),?_⟩;exact trivial;refine⟨.box _ rfl ?_,?_⟩;refine⟨.pvE (by first|rfl|(rw[List.map_append];rfl)),?_⟩;refine⟨.pvE (by first|rfl|(rw[List.map_append];rfl)),?_⟩;(iterate 2 refine⟨.eq rfl rfl,?_⟩);(iterate 2 exact trivial))) rfl⟩
      ·obtain rfl:k=fs.length:=by omega
       rw[List.drop_length] at hP
       cases hP
       (refine j46 ?_;refine j263 ?_;refine nz ?_;refine j81 ?_;(with_reducible apply AOps.appendS);exact rfl;(first|exact .pv rfl|exact .own rfl|exact .nil rfl);(iterate 9 exact rfl);(first|omega|(simp only[List.length_map,List.length_append,List.length_cons,List.length_nil,List.length_drop,List.length_take,List.length_set,chunk_len];omega));refine nz ?_;refine j250 ?_;refine j279 ?_)
       exact⟨(i+1,sts++ [ln],u2),⟨by omega,by show u2.length≤1000000;omega,by simp;omega,by rw[Int.natCast_add];exact hB⟩,(by show stv.toNat - (i+1)<stv.toNat - i;omega),weak rfl (by(refine⟨.intE (by first|rfl|(rw[List.map_append];rfl)),?_⟩;refine⟨.intE (by first|rfl|(rw[List.map_append];rfl)),?_⟩;(iterate 5 refine⟨.eq rfl rfl,?_⟩);exact trivial)) (by(refine⟨.box _ rfl ?_,?_⟩;refine⟨.eq rfl rfl,?_⟩;exact trivial;refine⟨.box _ rfl ?_,?_⟩;refine⟨.pvE (by first|rfl|(rw[List.map_append];rfl)),?_⟩;refine⟨.intE (by first|rfl|(rw[List.map_append];rfl)),?_⟩;refine⟨.ownE (by first|rfl|(rw[List.map_append];rfl)) rfl,?_⟩;refine⟨.intE (by first|rfl|(rw[List.map_append];rfl)),?_⟩;exact trivial;refine⟨.row rfl,?_⟩;refine⟨.box _ rfl ?_,?_⟩;refine⟨.eq rfl rfl,?_⟩;refine⟨.intE (by first|rfl|(rw[List.map_append];rfl)),?_⟩;refine⟨.eq rfl rfl,?_⟩;refine⟨.intE (by first|rfl|(rw[List.map_append];rfl)),?_⟩;exact trivial;refine⟨.box _ rfl ?_,?_⟩;refine⟨.pvE (by first|rfl|(rw[List.map_append];rfl)),?_⟩;refine⟨.pvE (by first|rfl|(rw[List.map_append];rfl)),?_⟩;(iterate 2 refine⟨.eq rfl rfl,?_⟩);(iterate 2 exact trivial))) rfl⟩
     ·obtain rfl:i=stv.toNat:=by omega
      rw[Nat.sub_self] at hP
      cases hP
      (refine j215 ?_;refine j27 ?_;refine j155 ?_;refine j328 ?_)
      (apply endsX_ret;((exact Res.one (.cell rfl rfl rfl rfl)));((refine⟨WV.aggL (by repeat (first|exact True.intro|refine And.intro (.eq rfl rfl) ?_|refine And.intro (.freeze rfl) ?_|refine And.intro (.nilpv _) ?_)),?_⟩;exact j51));((exact j111));exact rfl)
 ·cases hG
end Go.Ab
