/- Chapter 24: the laws' bounds and symmetries, walked. -/
import Derived.Test.YtcklfjkaadfjjaaGreatAwF4
import Derived.Test.YtcklfjkaadfjjaaGreatAbZ
import Derived.Test.YtcklfjkaadfjjaaGreatAbL3
import Derived.Test.YtcklfjkaadfjjaaGreatAwJB
import Derived.Test.YtcklfjkaadfjjaaGreatAwM2
import Derived.Test.YtcklfjkaadfjjaaGreatAwE2
import Derived.Test.YtcklfjkaadfjjaaGreatAbL4
import Derived.Test.YtcklfjkaadfjjaaGreatAbL2
set_option linter.unusedSimpArgs false
set_option linter.unusedVariables false
open Bool renaming and_eq_true→aW
open List renaming all_eq_true→bB,mem_of_mem_take→c7,length_take_le→c8,getElem_mem→cT,take_of_length_le→cE,getElem_of_mem→dc,range→a7,getElem_map→de,getElem_range→df,mergeSort_perm→dh,getElem_inj→di,mem_map→bt,map_map→ct,map_congr_left→dj,mem_range→dk,map→dm,length_map→aX,take_succ_eq_append_getElem→dp,map_append→cV,replicate→bX,map_replicate→dr
open Nat renaming le_refl→aM,reduceBEq→c6,zero_le→bg,zero_lt_one→db,succ_mul→dq
open Int renaming emod_nonneg→c9,emod_lt_of_pos→da,toNat_natCast→dg
namespace Go.Ab
open Go Go.Proofs
open Nat (reduceAdd reduceSub)
set_option maxRecDepth 20000
set_option maxHeartbeats 8000000
abbrev Mx (n:Int):AV:=.pv (.lit (.int .u16 n))
abbrev HK:AV:=.pv (.lit (.slice none 0 0))
abbrev F_ (s:gu) (at':List Int) (st:Int) (raw:List (List Int)) (P Q:Int):AV:=.agg [.pv (.slice 2 (s.sorts.map mT)),.pv (.slice 3 (s.fields.map qj)),vO s.preds,vO s.facts,.pv (ints at'),eU st,.pv (O1 raw),Mx P,Mx Q]
theorem Ay {s:gu} {at':List Int} {st:Int} (h:kd s at' st=true):at'.length≤4∧1≤st∧st≤4:=by
 unfold kd sizedB kq at h
 simp only[aW,decide_eq_true_eq,bB] at h
 obtain⟨⟨h1,h2,h3,h4⟩,h5,h6,⟨h7,h8,h9⟩,wm,wD⟩:=h
 exact⟨h4,h8,h9⟩
theorem iE.var {s:gu} {at':List Int} {st n:Nat} {bs:List gv} (h:iE s at' st n bs):Qn s st bs:=by
 have hl:=rq h.fit h.good
 exact⟨h.stb,⟨h.len,by omega⟩,fun x hx=>by have:=hl.2 x hx;omega⟩
theorem Te {s:gu} {at':List Int} {st n:Nat} {bs:List gv} (h:iE s at' st n bs):0<(oA s at' n bs).length:=by
 have:D3 n∈oA s at' n bs:=GK.2 (.id h.n1 h.LR)
 exact List.length_pos_of_mem this
theorem NK {s:gu} {at':List Int} {st n:Nat} {bs:List gv} (h:iE s at' st n bs):(oA s at' n bs).length≤3125:=by
 unfold oA
 exact Nat.le_trans (List.length_filter_le _ _) (sW h.n5 _ (aM n))
structure Rp (s:gu) (at':List Int) (st:Int) (raw:List (List Int)) (P Q:Int) (n m:Nat) (bs:List gv) (p q:List Int):Prop where
 stm:st=(m:Int)
 ok:iE s at' m n bs
 mp:p∈oA s at' n bs
 mq:q∈oA s at' n bs
 few:(iy 1 m (fJ 0 bs) (pE s.fields)).length≤30
 fn:Fn Tryz.prog 14 [F_ s at' st raw P Q] (.iR [.pv (oW bs),.pv (yr (oA s at' n bs)),.pv (ints p),.pv (ints q),fe true])
attribute [local irreducible] AW a_ fT ff AR fh e6 fp fA oA iy fJ oD kd
theorem Bm {l:List Int} (h:∀x∈l,0≤x∧x≤5):0≤l.sum∧l.sum≤5*l.length:=by
 induction l with
 |nil=>simp
 |cons x l ih=>
  have h1:=h x (by simp)
  have h2:=ih fun y hy=>h y (by simp [hy])
  simp only[List.sum_cons,List.length_cons]
  omega
theorem FM (s:gu) (at':List Int) (st:Int) (raw:List (List Int)) (P Q:Int) (Ka:∀r∈raw,∀x∈r,0≤x∧x≤255) (hP:0≤P∧P≤65535) (hQ:0≤Q∧Q≤65535):
  Fn Tryz.prog 14 [F_ s at' st raw P Q] (.iR [HK,HK,HK,HK,fe false])∨∃(n m:Nat) (bs:List gv) (p q:List Int),Rp s at' st raw P Q n m bs p q∧kd s at' st=true:=by
 have AO:=Lj s at' st
 by_cases h5:at'.length≤4∧(∀x∈at',0≤x∧x≤5)∧at'.sum≤5∧kd s at' st=true
 ·obtain⟨h4,hx,hs5,OK⟩:=h5
  have hf:=RB OK
  obtain⟨_,I_,hst4⟩:=Ay OK
  obtain⟨m,rfl⟩:∃m:Nat,st=(m:Int):=⟨st.toNat,by omega⟩
  obtain⟨n,hn⟩:∃n:Nat,(n:Int)=at'.sum:=⟨at'.sum.toNat,by have:=hf.one;omega⟩
  have ZD:=Nr s at' (m:Int) raw Ka hf.rQ (by have:=hf.fs;omega) hf.sm hf.top hf.one
  have hgd:=G5 hf raw
  generalize oD at' raw 0 s.fields=bs at ZD hgd
  have pC:iE s at' m n bs:=⟨hf,hn,by have:=hf.one;omega,by omega,by omega,hgd,h4,fun x h=>(hx x h).2⟩
  have W3:=Kc s at' m n bs pC
  have VG:=Jb s at' m bs pC.var
  have hgn:=Te pC
  have MY:=NK pC
  rw[OK] at AO
  have SB:(fun f=>(s.fields.getD f.toNat ⟨ByteArray.empty,[],false⟩).var)=pE s.fields:=rfl
  rw[SB] at VG
  by_cases h30:30<((iy 1 m (fJ 0 bs) (pE s.fields)).length:Int)
  ·left
   generalize oA s at' n bs=l at W3 hgn MY
   generalize iy 1 m (fJ 0 bs) (pE s.fields)=vl at VG h30
   obtain⟨so,fs,pr,fa⟩:=s
   refine Fn.enter (n:=103) Tryz.func14 rfl rfl rfl rfl rfl (by decide) fun g fu fw=>?_;(try refine nz ?_)
   (refine lV ?_;(iterate 5 refine za ?_);refine zd ?_;refine Q5 ?_;refine mw ?_)
   (refine nz ?_;apply AW.fO [1] [0] (fun k:Nat=>([(8,eU k),(7,eU (at'.take k).sum)]:List (Nat×AV))) (fun k:Nat=>([]:List (Nat×Option Ob))) (fun k:Nat=>k≤at'.length) (fun k:Nat=>at'.length - k) (0);(conv=>lhs;simp only[Nf.jI,Nf.all,c6,reduceAdd,reduceSub]);(all_goals skip))
   ·exact bg _
   ·exact R9
   rintro k hk
   have XC:∀x∈at'.take k,0≤x∧x≤5:=fun x h=>hx x (c7 h)
   have GM:=Bm XC
   have VI:=c8 k at'
   by_cases ft:k<at'.length
   ·have Yf:=hx _ (cT ft)
    have hs:=my at' ft
    (refine KL ?_;refine ay ?_;refine zr ?_;refine zj ?_;refine nv ?_;refine KX ?_;refine zm ?_;refine ay ?_;refine Of ?_;refine ay ?_;refine ov ?_;refine wL ?_;refine rP ?_)
    exact Q68
   ·have e:at'.take k=at':=cE (by omega)
    rw[e]
    (refine rH ?_;refine KX ?_;refine yy ?_;refine Mm ?_;refine zd ?_;refine Ot ?_;refine Nq ?_;(with_reducible apply a_.fU);(iterate 3 exact rfl);(repeat' first|exact Sub.nil|apply Sub.take|apply Sub.skip);(iterate 3 exact rfl);refine zy ?_;refine EW ?_;(with_reducible apply a_.fU);(iterate 3 exact rfl);(repeat' first|exact Sub.nil|apply Sub.take|apply Sub.skip);(iterate 3 exact rfl);refine zy ?_;refine zA (AO) ?_;refine ES ?_;refine mC ?_;refine H5 ?_;refine a_.b_ 35 0 0 rfl rfl rfl rfl ?_;(with_reducible apply a_.fU);(iterate 3 exact rfl);(repeat' first|exact Sub.nil|apply Sub.take|apply Sub.skip);(iterate 3 exact rfl);refine a_.b_ 35 1 4 rfl rfl rfl rfl ?_;(with_reducible apply a_.fU);(iterate 3 exact rfl);(repeat' first|exact Sub.nil|apply Sub.take|apply Sub.skip);(iterate 3 exact rfl);refine a_.b_ 35 2 6 rfl rfl rfl rfl ?_;refine zb ?_;refine zP (ZD) ?_;refine nv ?_;refine a_.b_ 35 0 0 rfl rfl rfl rfl ?_;(with_reducible apply a_.fU);(iterate 3 exact rfl);(repeat' first|exact Sub.nil|apply Sub.take|apply Sub.skip);(iterate 3 exact rfl);refine a_.b_ 35 1 4 rfl rfl rfl rfl ?_;(with_reducible apply a_.fU);(iterate 3 exact rfl);(repeat' first|exact Sub.nil|apply Sub.take|apply Sub.skip);(iterate 3 exact rfl);refine zm ?_;refine zP (W3) ?_;refine lM ?_;refine P6 ?_;refine R8 ?_;(with_reducible apply a_.fU);(iterate 3 exact rfl);(repeat' first|exact Sub.nil|apply Sub.take|apply Sub.skip);(iterate 3 exact rfl);refine zy ?_;refine EW ?_;(with_reducible apply a_.fU);(iterate 3 exact rfl);(repeat' first|exact Sub.nil|apply Sub.take|apply Sub.skip);(iterate 3 exact rfl);refine zy ?_;refine mW ?_;refine zP (VG) ?_;refine zy ?_;refine zn ?_;refine wL ?_;refine nD ?_;(iterate 5 refine za ?_);refine qu ?_;refine iU ?_)
    all_goals (apply c_;(exact fZ.five (.tmp rfl rfl) (.tmp rfl rfl) (.tmp rfl rfl) (.tmp rfl rfl) (.tmp rfl rfl));(refine Le.nV ?_;(iterate 2 refine VQ ?_);refine gX.cons ?_ ?_;refine Le.fe ?_;(rfl);exact gX.nil))
  ·right
   obtain⟨p,hp,q,hq,Y6⟩:∃p∈oA s at' n bs,∃q∈oA s at' n bs,Fn Tryz.prog 14 [F_ s at' (m:Int) raw P Q] (.iR [.pv (oW bs),.pv (yr (oA s at' n bs)),.pv (ints p),.pv (ints q),fe true]):=by
    generalize oA s at' n bs=l at W3 hgn MY ⊢
    have hp0:0≤P % (l.length:Int):=c9 _ (by omega)
    have hp1:P % (l.length:Int)<(l.length:Int):=da _ (by omega)
    have hq0:0≤Q % (l.length:Int):=c9 _ (by omega)
    have hq1:Q % (l.length:Int)<(l.length:Int):=da _ (by omega)
    refine⟨l[(P % (l.length:Int)).toNat]'(by omega),cT _,l[(Q % (l.length:Int)).toNat]'(by omega),cT _,?_⟩
    generalize iy 1 m (fJ 0 bs) (pE s.fields)=vl at VG h30
    obtain⟨so,fs,pr,fa⟩:=s
    refine Fn.enter (n:=103) Tryz.func14 rfl rfl rfl rfl rfl (by decide) fun g fu fw=>?_;(try refine nz ?_)
    (refine lV ?_;(iterate 5 refine za ?_);refine zd ?_;refine Q5 ?_;refine mw ?_)
    (refine nz ?_;apply AW.fO [1] [0] (fun k:Nat=>([(8,eU k),(7,eU (at'.take k).sum)]:List (Nat×AV))) (fun k:Nat=>([]:List (Nat×Option Ob))) (fun k:Nat=>k≤at'.length) (fun k:Nat=>at'.length - k) (0);(conv=>lhs;simp only[Nf.jI,Nf.all,c6,reduceAdd,reduceSub]);(all_goals skip))
    ·exact bg _
    ·exact R9
    rintro k hk
    have XC:∀x∈at'.take k,0≤x∧x≤5:=fun x h=>hx x (c7 h)
    have GM:=Bm XC
    have VI:=c8 k at'
    by_cases ft:k<at'.length
    ·have Yf:=hx _ (cT ft)
     have hs:=my at' ft
     (refine KL ?_;refine ay ?_;refine zr ?_;refine zj ?_;refine nv ?_;refine KX ?_;refine zm ?_;refine ay ?_;refine Of ?_;refine ay ?_;refine ov ?_;refine wL ?_;refine rP ?_)
     exact Q68
    ·have e:at'.take k=at':=cE (by omega)
     rw[e]
     (refine rH ?_;refine KX ?_;refine yy ?_;refine Mm ?_;refine zd ?_;refine Ot ?_;refine Nq ?_;(with_reducible apply a_.fU);(iterate 3 exact rfl);(repeat' first|exact Sub.nil|apply Sub.take|apply Sub.skip);(iterate 3 exact rfl);refine zy ?_;refine EW ?_;(with_reducible apply a_.fU);(iterate 3 exact rfl);(repeat' first|exact Sub.nil|apply Sub.take|apply Sub.skip);(iterate 3 exact rfl);refine zy ?_;refine zA (AO) ?_;refine ES ?_;refine mC ?_;refine H5 ?_;refine a_.b_ 35 0 0 rfl rfl rfl rfl ?_;(with_reducible apply a_.fU);(iterate 3 exact rfl);(repeat' first|exact Sub.nil|apply Sub.take|apply Sub.skip);(iterate 3 exact rfl);refine a_.b_ 35 1 4 rfl rfl rfl rfl ?_;(with_reducible apply a_.fU);(iterate 3 exact rfl);(repeat' first|exact Sub.nil|apply Sub.take|apply Sub.skip);(iterate 3 exact rfl);refine a_.b_ 35 2 6 rfl rfl rfl rfl ?_;refine zb ?_;refine zP (ZD) ?_;refine nv ?_;refine a_.b_ 35 0 0 rfl rfl rfl rfl ?_;(with_reducible apply a_.fU);(iterate 3 exact rfl);(repeat' first|exact Sub.nil|apply Sub.take|apply Sub.skip);(iterate 3 exact rfl);refine a_.b_ 35 1 4 rfl rfl rfl rfl ?_;(with_reducible apply a_.fU);(iterate 3 exact rfl);(repeat' first|exact Sub.nil|apply Sub.take|apply Sub.skip);(iterate 3 exact rfl);refine zm ?_;refine zP (W3) ?_;refine lM ?_;refine P6 ?_;refine R8 ?_;(with_reducible apply a_.fU);(iterate 3 exact rfl);(repeat' first|exact Sub.nil|apply Sub.take|apply Sub.skip);(iterate 3 exact rfl);refine zy ?_;refine EW ?_;(with_reducible apply a_.fU);(iterate 3 exact rfl);(repeat' first|exact Sub.nil|apply Sub.take|apply Sub.skip);(iterate 3 exact rfl);refine zy ?_;refine mW ?_;refine zP (VG) ?_;refine zy ?_;refine zn ?_;refine wL ?_;refine B1 ?_;refine zo ?_;(with_reducible apply AW.fG);exact rfl;exact rfl;kernel_rfl;(with_reducible assumption);(iterate 3 refine zm ?_);refine a_.b_ 35 3 7 rfl rfl rfl rfl ?_;refine zb ?_;refine a_.JK rfl rfl rfl rfl rfl aG ?_;refine zm ?_;refine zn ?_;refine a_.Ef rfl rfl rfl rfl rfl aG ?_;(focus ((with_reducible apply a_.e8);(iterate 7 exact rfl);omega;rotate_left;(first|omega|exact db|exact(by simp))));refine zr ?_;refine zm ?_;refine a_.b_ 35 4 8 rfl rfl rfl rfl ?_;refine zb ?_;refine a_.JK rfl rfl rfl rfl rfl aG ?_;refine zm ?_;refine zn ?_;refine a_.Ef rfl rfl rfl rfl rfl aG ?_;(focus ((with_reducible apply a_.e8);(iterate 7 exact rfl);omega;rotate_left;(first|omega|exact db|exact(by simp))));refine zr ?_;(iterate 5 refine za ?_);refine qu ?_)
     all_goals (apply c_;(exact fZ.five (.tmp rfl rfl) (.tmp rfl rfl) (.tmp rfl rfl) (.tmp rfl rfl) (.tmp rfl rfl));(refine Le.nV ?_;refine gX.cons ?_ ?_;refine Le.fb ?_;(rfl);refine gX.cons ?_ ?_;refine Le.fb ?_;(rfl);refine gX.cons ?_ ?_;refine Le.fb ?_;(rfl);refine gX.cons ?_ ?_;refine Le.fb ?_;(rfl);refine gX.cons ?_ ?_;refine Le.fe ?_;(rfl);exact gX.nil))
   exact⟨n,m,bs,p,q,⟨rfl,pC,hp,hq,by omega,Y6⟩,OK⟩
 ·left
  obtain⟨so,fs,pr,fa⟩:=s
  refine Fn.enter (n:=103) Tryz.func14 rfl rfl rfl rfl rfl (by decide) fun g fu fw=>?_;(try refine nz ?_)
  (refine lV ?_;(iterate 5 refine za ?_);refine zd ?_;refine Q5 ?_;refine mw ?_)
  (refine nz ?_;apply AW.fO [1] [0] (fun k:Nat=>([(8,eU k),(7,eU (at'.take k).sum)]:List (Nat×AV))) (fun k:Nat=>([]:List (Nat×Option Ob))) (fun k:Nat=>k≤at'.length∧k≤4∧∀x∈at'.take k,0≤x∧x≤5) (fun k:Nat=>at'.length - k) (0);(conv=>lhs;simp only[Nf.jI,Nf.all,c6,reduceAdd,reduceSub]);(all_goals skip))
  ·exact⟨bg _,bg _,by simp⟩
  ·exact R9
  rintro k ⟨hk,hk4,hx⟩
  have GM:=Bm hx
  have VI:=c8 k at'
  by_cases ft:k<at'.length∧k<4
  ·obtain⟨ft,X0⟩:=ft
   by_cases Yf:0≤at'[k]∧at'[k]≤5
   ·have hs:=my at' ft
    have hx':∀x∈at'.take (k+1),0≤x∧x≤5:=by
     rw[fF ft]
     intro x h
     rcases List.mem_append.1 h with h|h
     ·exact hx x h
     ·rw[List.mem_singleton] at h;subst h;exact Yf
    (refine KL ?_;refine ay ?_;refine zr ?_;refine zj ?_;refine nv ?_;refine KX ?_;refine zm ?_;refine ay ?_;refine Of ?_;refine ay ?_;refine ov ?_;refine wL ?_;refine rP ?_)
    exact⟨k+1,⟨by omega,by omega,hx'⟩,by omega,e_ rfl (by(refine⟨.d_ (by first|rfl|(rw[hs])),?_⟩;refine⟨.d_ (by first|rfl|(rw[hs])),?_⟩;refine aA ?_;exact trivial)) (by(refine⟨.box _ rfl ?_,?_⟩;refine⟨.fb (by first|rfl|(rw[hs])),?_⟩;refine⟨.fb (by first|rfl|(rw[hs])),?_⟩;(iterate 2 refine aA ?_);refine⟨.fb (by first|rfl|(rw[hs])),?_⟩;refine⟨.d_ (by first|rfl|(rw[hs])),?_⟩;refine⟨.fb (by first|rfl|(rw[hs])),?_⟩;refine⟨.d_ (by first|rfl|(rw[hs])),?_⟩;refine⟨.d_ (by first|rfl|(rw[hs])),?_⟩;(iterate 2 exact trivial))) rfl⟩
   ·by_cases wG:at'[k]<0
    ·(refine KL ?_;refine ay ?_;refine zr ?_;refine a_.SX rfl rfl rfl rfl rfl ?_;refine nv ?_;refine KX ?_;refine zm ?_;refine ay ?_;refine uT ?_;refine zm ?_;(iterate 7 refine a_.jM rfl rfl rfl rfl rfl rfl (by with_reducible assumption) ?_);refine zT ?_;refine tn ?_;(iterate 5 refine za ?_);refine qu ?_;refine JA ?_)
     (apply c_;(exact fZ.five (.tmp rfl rfl) (.tmp rfl rfl) (.tmp rfl rfl) (.tmp rfl rfl) (.tmp rfl rfl));(refine Le.nV ?_;(iterate 2 refine VQ ?_);refine gX.cons ?_ ?_;refine Le.fe ?_;(rfl);exact gX.nil))
    ·have WK:5<at'[k]:=by omega
     (refine KL ?_;refine ay ?_;refine zr ?_;refine a_.SX rfl rfl rfl rfl rfl ?_;refine nv ?_;refine KX ?_;refine zm ?_;refine ay ?_;refine Of ?_;refine ay ?_;refine ov ?_;refine wL ?_;refine nD ?_;(iterate 5 refine za ?_);refine qu ?_;refine JA ?_)
     (apply c_;(exact fZ.five (.tmp rfl rfl) (.tmp rfl rfl) (.tmp rfl rfl) (.tmp rfl rfl) (.tmp rfl rfl));(refine Le.nV ?_;(iterate 2 refine VQ ?_);refine gX.cons ?_ ?_;refine Le.fe ?_;(rfl);exact gX.nil))
  ·by_cases WK:5<(at'.take k).sum
   ·(refine rH ?_;refine KX ?_;refine yy ?_;refine zm ?_;(focus ((with_reducible apply a_.EA);(iterate 6 exact rfl);all_goals intro qp));refine zm ?_;refine xQ ?_;refine zd ?_;refine Q7 ?_;refine rX ?_;refine zm ?_;refine yZ ?_;refine L6 ?_;refine NI ?_;(all_goals skip);rotate_left;refine Sh ?_;refine zd ?_;refine Ot ?_;refine rX ?_;refine zm ?_;refine yZ ?_;refine L6 ?_;refine NI ?_;(all_goals skip);rotate_left)
    all_goals (apply c_;(exact fZ.five (.tmp rfl rfl) (.tmp rfl rfl) (.tmp rfl rfl) (.tmp rfl rfl) (.tmp rfl rfl));(refine Le.nV ?_;(iterate 2 refine VQ ?_);refine gX.cons ?_ ?_;refine Le.fe ?_;(rfl);exact gX.nil))
   ·have G4:kd ⟨so,fs,pr,fa⟩ at' st=false:=by
     cases hf:kd ⟨so,fs,pr,fa⟩ at' st with
     |false=>rfl
     |true=>
      exfalso
      have h4:=(Ay hf).1
      have e:at'.take k=at':=cE (by omega)
      rw[e] at hx WK
      exact h5 ⟨h4,hx,by omega,hf⟩
    rw[G4] at AO
    (refine rH ?_;refine KX ?_;refine yy ?_;refine zm ?_;(focus ((with_reducible apply a_.EA);(iterate 6 exact rfl);all_goals intro qp));refine zm ?_;refine xQ ?_;refine zd ?_;refine Q7 ?_;refine Nq ?_;(with_reducible apply a_.fU);(iterate 3 exact rfl);(repeat' first|exact Sub.nil|apply Sub.take|apply Sub.skip);(iterate 3 exact rfl);refine zy ?_;refine EW ?_;(with_reducible apply a_.fU);(iterate 3 exact rfl);(repeat' first|exact Sub.nil|apply Sub.take|apply Sub.skip);(iterate 3 exact rfl);refine zy ?_;refine zA (AO) ?_;refine ES ?_;refine NI ?_;(all_goals skip);rotate_left;refine Sh ?_;refine zd ?_;refine Ot ?_;refine Nq ?_;(with_reducible apply a_.fU);(iterate 3 exact rfl);(repeat' first|exact Sub.nil|apply Sub.take|apply Sub.skip);(iterate 3 exact rfl);refine zy ?_;refine EW ?_;(with_reducible apply a_.fU);(iterate 3 exact rfl);(repeat' first|exact Sub.nil|apply Sub.take|apply Sub.skip);(iterate 3 exact rfl);refine zy ?_;refine zA (AO) ?_;refine ES ?_;refine NI ?_;(all_goals skip);rotate_left)
    all_goals (apply c_;(exact fZ.five (.tmp rfl rfl) (.tmp rfl rfl) (.tmp rfl rfl) (.tmp rfl rfl) (.tmp rfl rfl));(refine Le.nV ?_;(iterate 2 refine VQ ?_);refine gX.cons ?_ ?_;refine Le.fe ?_;(rfl);exact gX.nil))
end Go.Ab
/- Chapter 24:what an assignment decodes to is a model;symmetries act on it,in plain terms. -/
namespace Go.Ab
open Go Go.Proofs Go.RowKit
set_option maxRecDepth 20000
set_option maxHeartbeats 4000000
section
variable {s:gu} {at':List Int} {st n:Nat} {bs:List gv} {vals:List Bool}
abbrev vM (s:gu) (st:Nat) (bs:List gv):List gW:=iy 0 st (fJ 0 bs) (pE s.fields)
abbrev GX (s:gu) (st:Nat) (bs:List gv) (vals:List Bool):Nat→List Int:=mo vals st (pE s.fields) 0 (lY bs st 0) (vM s st bs)
theorem iE.dec (h:iE s at' st n bs):xo bs:=by
 have hl:=rq h.fit h.good
 refine⟨by omega,fun x hx=>?_,fun x hx=>?_⟩
 ·obtain⟨i,hi,rfl⟩:=dc hx
  exact⟨(h.LR.low i hi).inc,fun t ht=>by have:=(h.rk hi).1 t ht;omega⟩
 ·obtain⟨i,hi,rfl⟩:=dc hx
  exact⟨(h.LR.high i hi).inc,fun t ht=>by have:=(h.rk hi).2 t ht;omega⟩
theorem rB (h:iE s at' st n bs) (vals:List Bool):Cf vals st (pE s.fields) (lY bs st 0) (vM s st bs) (vM s st bs).length (GX s st bs vals):=by
 have:=Gp (st:=st) (vr:=pE s.fields) (vals:=vals) h.dec _ (aM _)
 rwa [List.take_length] at this
def TU (vr:Int→Bool) (k f:Nat) (x:Int) (u:gW):Prop:=0≤u.1∧u.2.2=x∧u.2.1=(f:Int)∧(u.1=(k:Int)∨(u.1=0∧vr u.2.1=false))
theorem pG (h:iE s at' st n bs) (vals:List Bool) {k f:Nat} (hk:k<st) (hf:f<bs.length) (x:Int):x∈GX s st bs vals (8*k+f)↔x∈bs[f].1.2∨∃i,∃hi:i<(vM s st bs).length,TU (pE s.fields) k f x (vM s st bs)[i]∧jF vals ((i:Int)+1)=true:=by
 have h8:=h.dec.b8
 have e1:(8*k+f) / 8=k:=by omega
 have e2:(8*k+f) % 8=f:=by omega
 rw[(rB h vals).mem,Bp,if_pos ⟨by omega,by omega⟩,e2,(CQ hf).2]
 refine or_congr Iff.rfl ⟨fun⟨_,i,hi,_,hc,hv⟩=>⟨i,hi,?_,hv⟩,fun⟨i,hi,hc,hv⟩=>⟨by omega,i,hi,hi,?_,hv⟩⟩
 ·unfold Mr at hc
  rw[e1,e2] at hc
  exact hc
 ·unfold Mr
  rw[e1,e2]
  exact hc
theorem qz (h:iE s at' st n bs) {vals:List Bool} {k f:Nat} (hk:k<st) (hf:f<bs.length) {x:Int} (hx:x∈GX s st bs vals (8*k+f)):x∈bs[f].2.2:=by
 have Sk:f<s.fields.length:=by rw[← h.len];exact hf
 rcases(pG h vals hk hf x).1 hx with hx|⟨i,hi,hc,_⟩
 ·exact(h.good.get f Sk).1.sub x hx
 ·rcases lC.1 (cT hi) with h1|⟨_,h2,_⟩
  ·have:=hc.1;omega
  ·obtain⟨j,hj,h4,h5,_⟩:=wJ h2
   have e:j=f:=by have:=hc.2.2.1;omega
   subst e
   have:=hc.2.1
   simp only at h5
   rwa [this] at h5
theorem MJ (h:iE s at' st n bs) {vals:List Bool} {k f:Nat} (hk:k<st) (hf:f<bs.length) (hv:pE s.fields (f:Int)=false):GX s st bs vals (8*k+f)=GX s st bs vals (8*0+f):=by
 have hr:=rB h vals
 refine mh (hr.inc _) (hr.inc _) fun x=>?_
 rw[pG h vals hk hf,pG h vals (by have:=h.stb;omega) hf]
 refine or_congr Iff.rfl ⟨fun⟨i,hi,⟨c1,c2,c3,c4⟩,hb⟩=>⟨i,hi,⟨c1,c2,c3,?_⟩,hb⟩,fun⟨i,hi,⟨c1,c2,c3,c4⟩,hb⟩=>⟨i,hi,⟨c1,c2,c3,?_⟩,hb⟩⟩
 ·rcases lC.1 (cT hi) with h1|⟨_,_,h3⟩
  ·omega
  ·rw[c3,hv] at h3
   rcases h3 with h3|h3
   ·exact .inl (by omega)
   ·cases h3
 ·rcases c4 with c4|c4
  ·exact .inr ⟨by omega,by rw[c3];exact hv⟩
  ·exact .inr c4
theorem zJ (vals:List Bool) (st:Nat) (h:1≤st):∀v,v≤st→0≤lF vals st v∧lF vals st v<(st:Int)
 |0,_=>⟨by show(0:Int)≤0;omega,by show(0:Int)<st;omega⟩
 |v+1,hv=>by
  unfold lF
  split
  ·omega
  ·exact zJ vals st h v (by omega)
theorem oK (st:Nat) (bs:List gv) (T:Nat→List Int):(vY st bs T).length=st:=by simp [vY]
theorem wV {st:Nat} {bs:List gv} {T:Nat→List Int} {k:Nat} (hk:k<(vY st bs T).length):(vY st bs T)[k]=(a7 bs.length).map fun f=>(yC bs f,T (8*k+f)):=by simp [vY]
theorem I0 (h:iE s at' st n bs) (hf:kd s at' (st:Int)=true) (vals:List Bool):ye (lH at') s (rM s at' st bs vals)=true:=by
 unfold kd sizedB at hf
 simp only[aW,decide_eq_true_eq] at hf
 obtain⟨⟨f1,f2,f3,f4⟩,f5,f6,⟨f7,f8,f9⟩,f10,f11⟩:=hf
 have ij:=h.stb
 have hl:=zJ vals st ij.1 (jO st) (by unfold jO;split<;>omega)
 have hlen:bs.length=s.fields.length:=h.len
 unfold ye rM Bi lB pP
 simp only[aW,decide_eq_true_eq]
 refine⟨⟨⟨⟨by omega,by omega,by omega,by omega⟩,f10⟩,f11⟩,⟨by rw[oK],hl.1,by rw[oK];exact hl.2⟩,f5,?_⟩
 rw[bB]
 intro x hx
 obtain⟨k,hk,rfl⟩:=dc hx
 have jN:k<st:=by rwa [oK] at hk
 have h0:(vY st bs (GX s st bs vals)).headD []=(a7 bs.length).map fun f=>(yC bs f,GX s st bs vals (8*0+f)):=by
  have hp:0<(vY st bs (GX s st bs vals)).length:=by rw[oK];omega
  rw[← wV hp]
  generalize vY st bs (GX s st bs vals)=l at hp
  match l,hp with
  |a::r,_=>rfl
 rw[h0,wV]
 unfold sG
 rw[aW,decide_eq_true_eq]
 refine⟨by simp [hlen],?_⟩
 rw[xh (by simp [hlen]) (by simp [hlen])]
 intro f hf
 have BX:f<bs.length:=by omega
 simp only[de,df]
 have hg:=h.good.get f hf
 have ha:yC bs f=(s.fields[f].sorts.length:Int):=by rw[(CQ BX).1];exact hg.2.1
 have F4:=h.full hf
 unfold Dm
 simp only[aW,decide_eq_true_eq,Bool.or_eq_true]
 refine⟨ha,?_,?_,?_⟩
 ·rw[l7]
  have WK:=h.n5
  have Xc:=h.ns
  refine⟨⟨by show 0≤at'.sum;omega,f11,by show 1≤yC bs f;omega,by show yC bs f≤3;omega⟩,(rB h vals).inc _,fun t ht=>?_⟩
  have:=F4.2 t (hg.2.2 t (qz h jN BX ht))
  show 0≤t∧t<at'.sum ^ (yC bs f).toNat
  rw[ha,← Xc,dg,← Int.natCast_pow]
  exact this
 ·unfold nW
  rw[bB]
  intro t ht
  rw[decide_eq_true_eq]
  exact hg.2.2 t (qz h jN BX ht)
 ·cases hv:s.fields[f].var with
  |true=>exact .inl rfl
  |false=>
   right
   exact congrArg (Prod.mk _) (MJ h jN BX (by unfold pE;rw[show((f:Int)).toNat=f by omega,kA hf];exact hv))
theorem LL {l:List Int} (h:l.Nodup):nY (j5 l):=by
 have h2:(j5 l).Nodup:=(dh l _).nodup_iff.2 h
 refine List.Pairwise.imp ?_ (List.Pairwise.and (AP l) h2)
 intro a b ti
 omega
theorem A6 {V:List gW} {f:gW→gW} (hV:V.Nodup) (hf:∀v∈V,f v∈V) (hP:qF V.length (lg V f)) (vals:List Bool) {i:Nat} (hi:i<V.length):∃j,∃hj:j<V.length,V[j]=f V[i]∧jF (nU vals (lg V f)) ((j:Int)+1)=jF vals ((i:Int)+1):=by
 obtain⟨j,hj,h1,h2⟩:=rG (hf _ (cT hi))
 have jS:i<(lg V f).length:=by rw[qV];exact hi
 refine⟨j,hj,h2,?_⟩
 have hl:=hP.len
 rw[Ei _ aG]
 have e:(lg V f)[i]=(j:Int)+1:=by rw[uc jS,h1]
 have:=hP.ok.Gf jS
 rw[e] at this
 rw[this]
theorem KV {V:List gW} {f:gW→gW} (hV:V.Nodup) (hf:∀v∈V,f v∈V) (hP:qF V.length (lg V f)) (vals:List Bool) {j:Nat} (hj:j<V.length):∃i,∃hi:i<V.length,V[j]=f V[i]∧jF (nU vals (lg V f)) ((j:Int)+1)=jF vals ((i:Int)+1):=by
 have hl:=hP.len
 obtain⟨i,hi,_,h2⟩:=hP.ok.at (w:=(j:Int)+1) (by omega)
 have D6:i<V.length:=by omega
 obtain⟨k,hk,h3,h4⟩:=A6 hV hf hP vals D6
 have e:(lg V f)[i]=(k:Int)+1:=by
  obtain⟨q,hq,q1,q2⟩:=rG (hf _ (cT D6))
  rw[uc hi,q1]
  have:=(di hV).1 (h3.trans q2.symm)
  omega
 have e2:k=j:=by omega
 subst e2
 exact⟨i,D6,h3,h4⟩
theorem wW {v1 v2:List Bool} {st:Int}:∀m:Nat,(∀i,i<m→jF v1 ((i+1:Nat):Int)=jF v2 ((i+1:Nat):Int))→lF v1 st m=lF v2 st m
 |0,_=>rfl
 |m+1,h=>by
  unfold lF
  rw[h m aG,wW m fun i hi=>h i aG]
theorem FT (h:iE s at' st n bs) {p:List Int} (hp:yJ n (l_ at') (R7 s.sorts at') (k9 s.fields) bs p) (vals:List Bool):xj p (rM s at' st bs vals)=rM s at' st bs (nU vals (nT 0 p.length (k9 s.fields) st (pE s.fields) bs p)):=by
 have hn:=h.n1
 have sB:=hp.perm.len
 have hV:(vM s st bs).Nodup:=sC 0 st _ (mr fun x hx=>(h.dec.hi x hx).1)
 have hf:∀v∈vM s st bs,lP n (k9 s.fields) p v∈vM s st bs:=Be hp.perm hn h.LR hp.keep
 have hP:qF (vM s st bs).length (lg (vM s st bs) (lP n (k9 s.fields) p)):=yw hn h.LR hp
 have gA:nT 0 p.length (k9 s.fields) st (pE s.fields) bs p=lg (vM s st bs) (lP n (k9 s.fields) p):=by rw[sB];rfl
 rw[gA]
 have hlen:bs.length=s.fields.length:=h.len
 unfold xj rM
 have VS:lF vals (st:Int) (jO st)=lF (nU vals (lg (vM s st bs) (lP n (k9 s.fields) p))) (st:Int) (jO st):=by
  refine wW _ fun i hi=>?_
  have Fq:i<(jC 0 (jO st)).length:=by rw[hY];exact hi
  have hiV:i<(vM s st bs).length:=by
   show i<(jC 0 (jO st)++_).length
   rw[List.length_append];omega
  have mL:(vM s st bs)[i].1= -1:=by
   have e:(vM s st bs)[i]=(jC 0 (jO st))[i]:=List.getElem_append_left Fq
   rw[e]
   exact(rz.1 (cT Fq)).1
  obtain⟨j,hj,h1,h2⟩:=A6 hV hf hP vals hiV
  have e:lP n (k9 s.fields) p (vM s st bs)[i]=(vM s st bs)[i]:=by unfold lP;rw[if_neg aG]
  rw[e] at h1
  have:=(di hV).1 h1
  subst this
  exact h2.symm
 have jD:∀k,k<st→∀f,f<bs.length→j5 ((GX s st bs vals (8*k+f)).map (fV p.length p (yC bs f).toNat))=GX s st bs (nU vals (lg (vM s st bs) (lP n (k9 s.fields) p))) (8*k+f):=fun k hk f BX=>by
  have Sk:f<s.fields.length:=by omega
  have ha:(yC bs f).toNat=k9 s.fields (f:Int):=by rw[(CQ BX).1,(h.good.get f Sk).2.1,BN Sk,dg]
  have hb:=h.LR
  have VP:=hb.low f BX
  have P5:=hb.high f BX
  have hkp:=hp.keep f BX
  rw[ha,sB]
  refine mh (LL ?_) ((rB h _).inc _) fun x=>?_
  ·refine List.Pairwise.map _ (fun a b ti e=>?_) (List.Pairwise.and_mem.1 ((rB h vals).inc (8*k+f)))
   obtain⟨h1,h2,h3⟩:=ti
   have:=wo hp.perm hn _ (P5.wI _ (qz h hk BX h1)) (P5.wI _ (qz h hk BX h2)) e
   omega
  ·rw[yc,bt,pG h _ hk BX]
   constructor
   ·rintro⟨t,ht,rfl⟩
    rcases(pG h vals hk BX t).1 ht with ht|⟨i,hi,⟨c1,c2,c3,c4⟩,hv⟩
    ·exact .inl (CW VP.inc hkp.1 ht)
    ·obtain⟨j,hj,j1,j2⟩:=A6 hV hf hP vals hi
     have e:lP n (k9 s.fields) p (vM s st bs)[i]=((vM s st bs)[i].1,(vM s st bs)[i].2.1,fV n p (k9 s.fields (vM s st bs)[i].2.1) (vM s st bs)[i].2.2):=by unfold lP;rw[if_pos c1]
     rw[e,c2,c3] at j1
     refine .inr ⟨j,hj,?_,by rw[j2];exact hv⟩
     unfold TU
     rw[j1]
     rw[c3] at c4
     exact⟨c1,rfl,rfl,c4⟩
   ·rintro(hx|⟨j,hj,⟨c1,c2,c3,c4⟩,hv⟩)
    ·obtain⟨u,hu,e⟩:=bt.1 (((qv VP.inc).1 hkp.1 x).2 hx)
     exact⟨u,(pG h vals hk BX u).2 (.inl hu),e⟩
    ·obtain⟨i,hi,j1,j2⟩:=KV hV hf hP vals hj
     have UK:0≤(vM s st bs)[i].1:=by
      apply Int.not_lt.1
      intro Ox
      have e:lP n (k9 s.fields) p (vM s st bs)[i]=(vM s st bs)[i]:=by unfold lP;rw[if_neg aG]
      rw[e] at j1
      rw[j1] at c1
      omega
     have e:lP n (k9 s.fields) p (vM s st bs)[i]=((vM s st bs)[i].1,(vM s st bs)[i].2.1,fV n p (k9 s.fields (vM s st bs)[i].2.1) (vM s st bs)[i].2.2):=by unfold lP;rw[if_pos UK]
     rw[e] at j1
     have q1:(vM s st bs)[j].1=(vM s st bs)[i].1:=by rw[j1]
     have q2:(vM s st bs)[j].2.1=(vM s st bs)[i].2.1:=by rw[j1]
     have q3:(vM s st bs)[j].2.2=fV n p (k9 s.fields (vM s st bs)[i].2.1) (vM s st bs)[i].2.2:=by rw[j1]
     refine⟨(vM s st bs)[i].2.2,(pG h vals hk BX _).2 (.inr ⟨i,hi,⟨UK,rfl,q2.symm.trans c3,?_⟩,by rw[← j2];exact hv⟩),?_⟩
     ·rw[← q1,← q2];exact c4
     ·rw[← c2,q3,← q2,c3]
 simp only[uf.mk.injEq,true_and]
 refine⟨?_,VS⟩
 unfold vY
 rw[ct]
 refine dj fun k hk=>?_
 have hk:=dk.1 hk
 show dm _ (dm _ _)=_
 rw[ct]
 refine dj fun f hf=>?_
 have hf:=dk.1 hf
 exact congrArg (Prod.mk _) (jD k hk f hf)
theorem HL (h:iE s at' st n bs) (vals:List Bool):∀x∈(rM s at' st bs vals).states,x.length≤100000∧∀r∈x,Gq r:=by
 intro x hx
 have hlen:bs.length=s.fields.length:=h.len
 have h8:=h.dec.b8
 obtain⟨k,hk,rfl⟩:=dc hx
 have jN:k<st:=by rwa [show(rM s at' st bs vals).states.length=st from oK _ _ _] at hk
 rw[show(rM s at' st bs vals).states[k]=_ from wV hk]
 refine⟨by rw[aX,List.length_range];omega,fun r hr=>?_⟩
 obtain⟨f,hf,rfl⟩:=bt.1 hr
 have hf:=dk.1 hf
 have Sk:f<s.fields.length:=by omega
 have ha:yC bs f=(s.fields[f].sorts.length:Int):=by rw[(CQ hf).1];exact(h.good.get f Sk).2.1
 have F4:=(h.full Sk).1
 have hrg:∀t∈GX s st bs vals (8*k+f),0≤t∧t≤125:=fun t ht=>(h.rk hf).2 t (qz h jN hf ht)
 refine⟨⟨by show 0≤yC bs f;omega,by show yC bs f≤3;omega⟩,fun t ht=>by have:=hrg t ht;omega,?_⟩
 have:=rA 126 (l:=(GX s st bs vals (8*k+f)).map (·+1)) (by
  refine List.Pairwise.map _ (fun a b ti e=>?_) ((rB h vals).inc (8*k+f))
  omega) (fun x hx=>by
  obtain⟨y,hy,rfl⟩:=bt.1 hx
  have:=hrg y hy
  omega)
 rw[aX] at this
 show(GX s st bs vals (8*k+f)).length≤100000
 omega
end
end Go.Ab
/- Chapter 24:all variables put into a decoded model,walked. -/
namespace Go.Ab
open Go Go.Proofs Go.RowKit
open Nat (reduceAdd reduceSub)
set_option maxRecDepth 20000
set_option maxHeartbeats 8000000
abbrev W7 (so:List sq) (fs:List gx) (pr fa:IH) (bs:List gv) (fr:List (Int×Int)) (vals:List Bool) (at':List Int) (st:Nat) (lp:Int) (Fs:Nat→Nat) (ar:Nat→Int) (hs:Nat→Value) (q:DQ):List (Nat×Option Ob):=(6,some (.box [.pv (ints at'),eU (st:Int),.pv (.slice 2 (so.map mT)),.pv (.slice 3 (fs.map qj)),vO pr,vO fa,.pv (oW bs),.pv (V4 fr)]))::PR vals at' st lp Fs ar hs q
attribute [local irreducible] jD AW a_ fT ff AR fh e6 fp fA jC jX iy fJ vK n_ qH rJ ki wg mo sc lR
theorem N2 (so:List sq) (fs:List gx) (pr fa:IH) (bs:List gv) (fr:List (Int×Int)) (vals:List Bool) (at':List Int) (st:Nat) (lp:Int) (Fs:Nat→Nat) (ar:Nat→Int) (hs:Nat→Value) (us:Nat→Value) (T0:Nat→List Int) (vr:Int→Bool)
  (ij:1≤st∧st≤4) (uL:vals.length≤1000000) (B0:fr.length≤1000000) (hF:∀s,Fs s≤8) (M7:∀(k:Nat) (hk:k<fr.length),0≤fr[k].1∧(∃hh:fr[k].1.toNat<fs.length,vr fr[k].1=fs[fr[k].1.toNat].var)∧∀s,s<st→fr[k].1<Fs s)
  (hT:∀s k,s<st→k≤fr.length→∀key,nY (mo vals st vr 0 T0 (jX 0 st fr vr s k) key)∧(mo vals st vr 0 T0 (jX 0 st fr vr s k) key).length≤1000000):
  Hi Tryz.prog 55 13 (W7 so fs pr fa bs fr vals at' st lp Fs ar hs ⟨us,T0⟩) [.ptr 6 0,.jd (.func 56) [] [.ptr 7 0,.ptr 8 0]] (fun _:Nat→Value=>True) (fun us'=>W7 so fs pr fa bs fr vals at' st lp Fs ar hs ⟨us',mo vals st vr 0 T0 (iy 0 st fr vr)⟩) (fun _=> .iR []):=by
 obtain⟨I_,Ns⟩:=ij
 have Br:=Ll so fs pr fa at' st bs fr
 simp only[Kv] at Br
 have hlen:∀s k,s≤st→(jX 0 st fr vr s k).length≤6000000:=fun s k hs=>by
  have h1:=AU (o:=0) (fr:=fr) (vr:=vr) (k:=k) hs
  have h2:(s+1)*fr.length≤5*1000000:=Nat.mul_le_mul aG B0
  omega
 have YA:(jX 0 st fr vr 0 0).length=jO st:=by rw[gI,hY]
 have ZI:mo vals st vr 0 T0 (jX 0 st fr vr 0 0)=T0:=by
  rw[gI]
  exact DM _ _ _ fun u hu=>by have:=(rz.1 hu).1;omega
 have Ui:∀(s k:Nat) (hk:k<fr.length),(s=0∨vr fr[k].1=true)→mo vals st vr 0 T0 (jX 0 st fr vr s (k+1))=sc vals st vr (((jX 0 st fr vr s k).length:Int)+1) ((s:Int),fr[k].1,fr[k].2) (mo vals st vr 0 T0 (jX 0 st fr vr s k)):=fun s k hk hc=>by
  rw[mu 0 st vr s hk,if_pos hc,uJ,if_neg (by simp only;omega),Nat.zero_add]
 rw[← tC]
 simp only[W7,PR]
 refine Hi.enter (n:=46) Tryz.func55 rfl rfl rfl rfl rfl (by decide) rfl (fun _=>rfl) fun g fu fw=>?_;refine Kj ?_
 (refine zq ?_;(iterate 2 refine HG ?_);refine nd ?_;refine zb ?_;refine a_.w6 rfl rfl rfl ?_;refine rW ?_)
 refine AW.hZ (ps:=[8]) (by assumption) (by assumption) rfl rfl Tryz.func97 rfl rfl rfl rfl rfl rfl (by decide) ?_
 intro gB tm0 l0 ps0 asg0 body0 jW Hs sR jY IX uA
 have lT:tm0.size=46:=uA
 (refine pN ?_;refine a_.j_ rfl rfl rfl ?_;refine zX (Br) ?_;refine qi ?_;refine Q4 ?_;refine pN ?_;refine O8 ?_;refine y1 ?_;refine zm ?_;refine rW ?_)
 (refine Q0 ?_;apply AW.fO [14,0,1,1003,1002,2000] [6,15,14,13,2,7,8,11] (fun z:Nat×(Nat→Value)=>([(15,eU z.1),(4,eU ((jX 0 st fr vr z.1 0).length:Nat))]:List (Nat×AV))) (fun z:Nat×(Nat→Value)=>([(9,some (.fm ⟨3,1⟩ (pA z.2 (mo vals st vr 0 T0 (jX 0 st fr vr z.1 0))))),(10,some (.fm ⟨105,2⟩ (rT hs (ki Fs ar z.2))))]:List (Nat×Option Ob))) (fun z:Nat×(Nat→Value)=>z.1≤st) (fun z:Nat×(Nat→Value)=>st - z.1) (((0,us):Nat×(Nat→Value)));(conv=>lhs;simp only[Nf.jI,Nf.all,c6,reduceAdd,reduceSub]);(all_goals skip))
 ·exact bg _
 ·simp only[ZI,YA]
  exact e_ rfl (by(refine aB ?_;(iterate 2 refine aB ?_);(iterate 5 refine aA ?_);exact trivial)) (by(refine aE ?_;refine aE ?_;refine⟨.box _ rfl ?_,?_⟩;refine aD ?_;refine aB ?_;(iterate 2 refine aD ?_);(iterate 2 refine aB ?_);(iterate 2 refine aD ?_);exact trivial;refine⟨.loop rfl,?_⟩;refine⟨.box _ rfl ?_,?_⟩;refine aA ?_;exact trivial;refine⟨.box _ rfl ?_,?_⟩;refine aA ?_;exact trivial;refine⟨.box _ rfl ?_,?_⟩;refine aD ?_;exact trivial;refine⟨.box _ rfl ?_,?_⟩;refine aA ?_;exact trivial;refine⟨.box _ rfl ?_,?_⟩;refine aD ?_;refine aB ?_;refine⟨.fR (by rfl) rfl,?_⟩;refine aB ?_;exact trivial;refine aC ?_;exact trivial)) rfl
 rintro⟨s,us1⟩ qo
 simp only at qo ⊢
 by_cases ft:s<st
 ·(refine EJ ?_;refine zm ?_;refine Q4 ?_;refine pN ?_;refine IV ?_;refine a_.b_ 158 3 7 rfl rfl rfl rfl ?_;refine zb ?_;refine uj ?_)
  (refine Q0 ?_;apply AW.fO [22,21,5,15,14,0,1,1003,1002,2000] [6,15,14,13,2,7,8,11] (fun y:Nat×(Nat→Value)=>([(23,eU y.1),(4,eU ((jX 0 st fr vr s y.1).length:Nat))]:List (Nat×AV))) (fun y:Nat×(Nat→Value)=>([(9,some (.fm ⟨3,1⟩ (pA y.2 (mo vals st vr 0 T0 (jX 0 st fr vr s y.1))))),(10,some (.fm ⟨105,2⟩ (rT hs (ki Fs ar y.2))))]:List (Nat×Option Ob))) (fun y:Nat×(Nat→Value)=>y.1≤fr.length) (fun y:Nat×(Nat→Value)=>fr.length - y.1) (((0,us1):Nat×(Nat→Value)));(conv=>lhs;simp only[Nf.jI,Nf.all,c6,reduceAdd,reduceSub]);(all_goals skip))
  ·exact bg _
  ·exact e_ rfl (by(refine aB ?_;(iterate 2 refine aB ?_);refine aD ?_;(iterate 3 refine aB ?_);(iterate 5 refine aA ?_);exact trivial)) (by(refine aE ?_;refine aE ?_;refine⟨.box _ rfl ?_,?_⟩;refine aD ?_;refine aB ?_;(iterate 2 refine aD ?_);(iterate 2 refine aB ?_);(iterate 2 refine aD ?_);exact trivial;refine⟨.loop rfl,?_⟩;refine⟨.box _ rfl ?_,?_⟩;refine aA ?_;exact trivial;refine⟨.box _ rfl ?_,?_⟩;refine aA ?_;exact trivial;refine⟨.box _ rfl ?_,?_⟩;refine aD ?_;exact trivial;refine⟨.box _ rfl ?_,?_⟩;refine aA ?_;exact trivial;refine⟨.box _ rfl ?_,?_⟩;refine aD ?_;refine aB ?_;refine⟨.fR (by rfl) rfl,?_⟩;refine aB ?_;exact trivial;refine aC ?_;exact trivial)) rfl
  rintro⟨k,us2⟩ hk
  simp only at hk ⊢
  have BP:=hlen s k qo
  by_cases gM:k<fr.length
  ·obtain⟨QB,⟨Sm,yY⟩,Wy⟩:=M7 k gM
   have gA:=WH (o:=0) (st:=st) (vr:=vr) s gM
   have Ra:=Ui s k gM
   have T6:=hT s k ft hk
   generalize yE:mo vals st vr 0 T0 (jX 0 st fr vr s k)=Tk at Ra T6
   have hk8:((s:Int).toNat)=s:=by omega
   have ON:=Lq vals at' st lp Fs ar hs us2 Tk (((jX 0 st fr vr s k).length:Int)+1) (s:Int) fr[k].1 fr[k].2 aG uL hF aG aG QB (by rw[hk8];exact Wy s ft) (T6 _).2 (T6 _).1
   simp only[PR] at ON
   have BZ:fr.length - (k+1)<fr.length - k:=by omega
   cases hb:fs[fr[k].1.toNat].var with
   |true=>
    have gA:=gA (.inr (yY.trans hb))
    have il:mo vals st vr 0 T0 (jX 0 st fr vr s (k+1))=wg vals (((jX 0 st fr vr s k).length:Int)+1) Tk (8*(s:Int).toNat+fr[k].1.toNat) fr[k].2:=by
     rw[Ra (.inr (yY.trans hb))]
     unfold sc
     rw[if_neg (fun h=>by rw[h.2] at yY;rw[← yY] at hb;cases hb)]
    have js:(!fs[fr[k].1.toNat].var)=false:=by rw[hb];rfl
    by_cases h0:s=0
    ·(refine EJ ?_;refine ay ?_;refine Ke ?_;refine zd ?_;(iterate 2 refine zo ?_);(with_reducible apply AW.fG);exact rfl;exact rfl;kernel_rfl;(with_reducible assumption);refine zm ?_;refine VR ?_;refine zm ?_;refine Yw ?_;(with_reducible apply a_.jL jW sR jY lT);(iterate 8 exact rfl);intro gR n8 q8 pf;refine az ?_;refine AW.region ?_;refine Ec ?_;refine zB ?_;refine Q0 ?_;refine zd ?_;refine And.intro (show jw _ _ _ _ from⟨_,_,_,_,rfl⟩) ?_;refine az ?_;refine AW.block ?_;refine zq ?_;refine zb ?_;refine zL ?_;refine Q0 ?_;(with_reducible apply a_.ri (hf:=ON));(with_reducible assumption);(iterate 3 exact rfl);exact au;exact al;(intro x_;exact rfl);exact rfl;exact aq;(intro x_;exact aq);(intro x_;exact rfl);exact rfl;(intro x_ Nb);refine qi ?_;refine zd ?_;refine Sp ?_;show a_ .held _ _ _ [_,_,_,_,_,_,_,_,_,_,_,_,_,_,_] _ _;refine UP ?_;refine ax ?_;refine IS ?_;refine Q0 ?_;refine ov ?_;refine zF ?_;refine Q3 ?_;intro k_ jA;refine Q0 ?_;refine JF ?_;refine AW.EV rfl rfl (by assumption) ?_;refine I2 ?_;(with_reducible apply fX);exact⟨_,_,_,_,rfl⟩;refine Q0 ?_;refine vj ?_;refine vP ?_;refine Q0 ?_;refine wb ?_)
     exact Q18
    ·(refine EJ ?_;refine ay ?_;refine Ke ?_;refine zd ?_;(iterate 2 refine zo ?_);(with_reducible apply AW.fG);exact rfl;exact rfl;kernel_rfl;(with_reducible assumption);refine zm ?_;refine UX ?_;refine ax ?_;refine zt ?_;refine a_.ig 71 2 2 1 rfl rfl rfl rfl ?_;refine Q0 ?_;refine yN ?_;refine a_.not rfl rfl rfl ?_;refine zT ?_;refine zd ?_;refine AW.Et rfl rfl (by assumption) ?_;refine AW.skip ?_;refine gr ?_;refine pN ?_;refine zm ?_;refine Yw ?_;(with_reducible apply a_.jL jW sR jY lT);(iterate 8 exact rfl);intro gR n8 q8 pf;refine az ?_;refine AW.region ?_;refine Ec ?_;refine zB ?_;refine Q0 ?_;refine zd ?_;refine And.intro (show jw _ _ _ _ from⟨_,_,_,_,rfl⟩) ?_;refine az ?_;refine AW.block ?_;refine zq ?_;refine zb ?_;refine zL ?_;refine Q0 ?_;(with_reducible apply a_.ri (hf:=ON));(with_reducible assumption);(iterate 3 exact rfl);exact au;exact al;(intro x_;exact rfl);exact rfl;exact aq;(intro x_;exact aq);(intro x_;exact rfl);exact rfl;(intro x_ Nb);refine qi ?_;refine zd ?_;refine Sp ?_;show a_ .held _ _ _ [_,_,_,_,_,_,_,_,_,_,_,_,_,_,_] _ _;refine a_.b_ 118 1 1 rfl rfl rfl rfl ?_;refine zb ?_;refine yZ ?_;(iterate 10 refine a_.jM rfl rfl rfl rfl rfl rfl (by first|omega|decide) ?_);refine zT ?_;refine Q3 ?_;intro k_ jA;refine Q0 ?_;refine JF ?_;refine AW.qb rfl rfl ?_;refine I2 ?_;(with_reducible apply fX);exact⟨_,_,_,_,rfl⟩;refine Q0 ?_;refine vj ?_;refine vP ?_;refine Q0 ?_;refine wb ?_)
     exact Q18
   |false=>
    have js:(!fs[fr[k].1.toNat].var)=true:=by rw[hb];rfl
    by_cases h0:s=0
    ·have gA:=gA (.inl h0)
     have il:mo vals st vr 0 T0 (jX 0 st fr vr s (k+1))=lR vals (((jX 0 st fr vr s k).length:Int)+1) fr[k].1 fr[k].2 Tk st:=by
      rw[Ra (.inl h0)]
      unfold sc
      rw[if_pos ⟨by show(s:Int)=0;omega,yY.trans hb⟩]
     have kF:=HT vals (((jX 0 st fr vr s k).length:Int)+1) fr[k].1 fr[k].2 Tk s h0
     have G8:=FF vals (((jX 0 st fr vr s k).length:Int)+1) fr[k].1 fr[k].2 Tk
     (refine EJ ?_;refine ay ?_;refine Ke ?_;refine zd ?_;(iterate 2 refine zo ?_);(with_reducible apply AW.fG);exact rfl;exact rfl;kernel_rfl;(with_reducible assumption);refine zm ?_;refine VR ?_;refine zm ?_;refine Yw ?_;(with_reducible apply a_.jL jW sR jY lT);(iterate 8 exact rfl);intro gR n8 q8 pf;refine az ?_;refine AW.region ?_;refine Ec ?_;refine zB ?_;refine Q0 ?_;refine zd ?_;refine And.intro (show jw _ _ _ _ from⟨_,_,_,_,rfl⟩) ?_;refine az ?_;refine AW.block ?_;refine zq ?_;refine zb ?_;refine zL ?_;refine Q0 ?_;(with_reducible apply a_.ri (hf:=ON));(with_reducible assumption);(iterate 3 exact rfl);exact au;exact al;(intro x_;exact rfl);exact rfl;exact aq;(intro x_;exact aq);(intro x_;exact rfl);exact rfl;(intro x_ Nb);refine qi ?_;refine zd ?_;refine Sp ?_;show a_ .held _ _ _ [_,_,_,_,_,_,_,_,_,_,_,_,_,_,_] _ _;refine UP ?_;refine ax ?_;refine IS ?_;refine Q0 ?_;refine ov ?_;refine zF ?_;refine Q3 ?_;intro k_ jA;refine Q0 ?_;refine JF ?_;refine AW.Et rfl rfl (by assumption) ?_;refine AW.skip ?_;refine gr ?_;refine zq ?_;refine sO ?_)
     (refine Q0 ?_;apply AW.fO [4,3,2,1051,1050,1049,1048,1047,1046,1045,1044,1004,1007,1023,1022,1021,1005,1015,1014,1000,1001,2003,2002,3000] [2,7,8,11,15,17,16,6,14,13] (fun w:Nat×(Nat→Value)=>([(5,eU w.1)]:List (Nat×AV))) (fun w:Nat×(Nat→Value)=>([(9,some (.fm ⟨3,1⟩ (pA w.2 (lR vals (((jX 0 st fr vr s k).length:Int)+1) fr[k].1 fr[k].2 Tk w.1)))),(10,some (.fm ⟨105,2⟩ (rT hs (ki Fs ar w.2))))]:List (Nat×Option Ob))) (fun w:Nat×(Nat→Value)=>1≤w.1∧w.1≤st) (fun w:Nat×(Nat→Value)=>st - w.1) (((1,x_):Nat×(Nat→Value)));(conv=>lhs;simp only[Nf.jI,Nf.all,c6,reduceAdd,reduceSub]);(all_goals skip))
     ·exact⟨aM _,I_⟩
     ·exact e_ rfl (by(refine⟨.fy (by first|rfl|(rw[kF])),?_⟩;(iterate 4 refine aA ?_);refine⟨.fy (by first|rfl|(rw[kF])),?_⟩;refine aA ?_;refine⟨.fy (by first|rfl|(rw[kF])),?_⟩;refine aA ?_;refine⟨.fy (by first|rfl|(rw[kF])),?_⟩;refine⟨.fy (by first|rfl|(rw[kF])),?_⟩;refine aA ?_;refine⟨.fy (by first|rfl|(rw[kF])),?_⟩;refine aA ?_;refine⟨.fy (by first|rfl|(rw[kF])),?_⟩;refine⟨.fy (by first|rfl|(rw[kF])),?_⟩;refine⟨.fb (by first|rfl|(rw[kF])),?_⟩;refine⟨.fy (by first|rfl|(rw[kF])),?_⟩;refine⟨.fy (by first|rfl|(rw[kF])),?_⟩;refine⟨.fy (by first|rfl|(rw[kF])),?_⟩;(iterate 5 refine aA ?_);exact trivial)) (by(refine⟨.fm rfl (by first|rfl|(rw[kF])),?_⟩;refine⟨.fm rfl (by first|rfl|(rw[kF])),?_⟩;refine⟨.box _ rfl ?_,?_⟩;refine⟨.fb (by first|rfl|(rw[kF])),?_⟩;exact trivial;refine⟨.box _ rfl ?_,?_⟩;refine aA ?_;exact trivial;refine⟨.box _ rfl ?_,?_⟩;refine⟨.fb (by first|rfl|(rw[kF])),?_⟩;refine⟨.fy (by first|rfl|(rw[kF])),?_⟩;refine⟨.fR (by first|rfl|(rw[kF])) rfl,?_⟩;refine⟨.fy (by first|rfl|(rw[kF])),?_⟩;exact trivial;refine aC ?_;refine⟨.loop rfl,?_⟩;refine⟨.box _ rfl ?_,?_⟩;refine⟨.fy (by first|rfl|(rw[kF])),?_⟩;refine⟨.fy (by first|rfl|(rw[kF])),?_⟩;refine⟨.fy (by first|rfl|(rw[kF])),?_⟩;refine⟨.fy (by first|rfl|(rw[kF])),?_⟩;exact trivial;refine⟨.box _ rfl ?_,?_⟩;refine⟨.fy (by first|rfl|(rw[kF])),?_⟩;refine⟨.fy (by first|rfl|(rw[kF])),?_⟩;exact trivial;refine⟨.box _ rfl ?_,?_⟩;refine⟨.fb (by first|rfl|(rw[kF])),?_⟩;refine⟨.fy (by first|rfl|(rw[kF])),?_⟩;refine⟨.fb (by first|rfl|(rw[kF])),?_⟩;refine⟨.fb (by first|rfl|(rw[kF])),?_⟩;refine⟨.fy (by first|rfl|(rw[kF])),?_⟩;refine⟨.fy (by first|rfl|(rw[kF])),?_⟩;refine⟨.fb (by first|rfl|(rw[kF])),?_⟩;refine⟨.fb (by first|rfl|(rw[kF])),?_⟩;exact trivial;refine⟨.box _ rfl ?_,?_⟩;refine aA ?_;exact trivial;refine⟨.box _ rfl ?_,?_⟩;refine aA ?_;(iterate 2 exact trivial))) rfl
     rintro⟨n,us3⟩ ⟨GC,hn2⟩
     simp only at GC hn2 ⊢
     by_cases BD:n<st
     ·have YW:((n:Int).toNat)=n:=by omega
      have MF:=Lq vals at' st lp Fs ar hs us3 (lR vals (((jX 0 st fr vr s k).length:Int)+1) fr[k].1 fr[k].2 Tk n) (((jX 0 st fr vr s k).length:Int)+1) (n:Int) fr[k].1 fr[k].2 aG uL hF aG aG QB (by rw[YW];exact Wy n BD) (by rw[YW,DW (by have:=hF s;have:=Wy s ft;omega)];exact(T6 _).2) (by rw[YW,DW (by have:=hF s;have:=Wy s ft;omega)];exact(T6 _).1)
      rw[← G8 n] at MF
      simp only[PR] at MF
      (refine rH ?_;refine zb ?_;refine a_.kr rfl rfl rfl ?_;refine a_.b_ 158 0 0 rfl rfl rfl rfl ?_;refine y1 ?_;refine zs ?_;refine tU ?_;refine AW.region ?_;refine Q0 ?_;refine zb ?_;refine a_.b_ 118 0 0 rfl rfl rfl rfl ?_;refine tM ?_;refine a_.b_ 118 2 2 rfl rfl rfl rfl ?_;refine zb ?_;refine a_.b_ 118 3 3 rfl rfl rfl rfl ?_;refine zb ?_;refine a_.iW 118 [0,1,2,3] rfl rfl rfl rfl rfl rfl rfl rfl rfl ?_;refine Q0 ?_;(with_reducible apply a_.ri (hf:=MF));(with_reducible assumption);(iterate 3 exact rfl);exact au;exact al;(intro x_;exact rfl);exact rfl;exact aq;(intro x_;exact aq);(intro x_;exact rfl);exact rfl;(intro x_ Nb);refine qi ?_;refine a_.nil ?_;refine vP ?_;refine rS ?_)
      exact⟨(n+1,x_),⟨by show 1≤n+1;omega,BD⟩,by show st - (n+1)<st - n;omega,e_ rfl (by(refine aB ?_;(iterate 4 refine aA ?_);refine aB ?_;refine aA ?_;refine aB ?_;refine aA ?_;(iterate 2 refine aB ?_);refine aA ?_;refine aB ?_;refine aA ?_;(iterate 2 refine aB ?_);refine aD ?_;(iterate 3 refine aB ?_);(iterate 5 refine aA ?_);exact trivial)) (by(refine aE ?_;refine aE ?_;refine⟨.box _ rfl ?_,?_⟩;refine aD ?_;exact trivial;refine⟨.box _ rfl ?_,?_⟩;refine aA ?_;exact trivial;refine⟨.box _ rfl ?_,?_⟩;refine aD ?_;refine aB ?_;refine⟨.fR (by rfl) rfl,?_⟩;refine aB ?_;exact trivial;refine aC ?_;refine⟨.loop rfl,?_⟩;refine⟨.box _ rfl ?_,?_⟩;(iterate 4 refine aB ?_);exact trivial;refine⟨.box _ rfl ?_,?_⟩;(iterate 2 refine aB ?_);exact trivial;refine⟨.box _ rfl ?_,?_⟩;refine aD ?_;refine aB ?_;(iterate 2 refine aD ?_);(iterate 2 refine aB ?_);(iterate 2 refine aD ?_);exact trivial;refine⟨.box _ rfl ?_,?_⟩;refine aA ?_;exact trivial;refine⟨.box _ rfl ?_,?_⟩;refine aA ?_;(iterate 2 exact trivial))) rfl⟩
     ·obtain rfl:st=n:=by omega
      (refine rH ?_;refine zb ?_;refine a_.kr rfl rfl rfl ?_;refine a_.b_ 158 0 0 rfl rfl rfl rfl ?_;refine y1 ?_;refine zs ?_;refine zd ?_;refine Q7 ?_;refine gL ?_;(with_reducible apply fX);exact⟨_,_,_,_,rfl⟩;refine Q0 ?_;refine vj ?_;refine vP ?_;refine Q0 ?_;refine wb ?_)
      exact⟨(k+1,us3),gM,BZ,e_ rfl (by(refine⟨.fy (by first|rfl|(rw[gA])|(rw[il])),?_⟩;refine⟨.fy (by first|rfl|(rw[gA])|(rw[il])),?_⟩;refine⟨.fy (by first|rfl|(rw[gA])|(rw[il])),?_⟩;refine⟨.fb (by first|rfl|(rw[gA])|(rw[il])),?_⟩;refine⟨.fy (by first|rfl|(rw[gA])|(rw[il])),?_⟩;refine⟨.fy (by first|rfl|(rw[gA])|(rw[il])),?_⟩;refine⟨.fy (by first|rfl|(rw[gA])|(rw[il])),?_⟩;(iterate 5 refine aA ?_);exact trivial)) (by(refine⟨.fm rfl (by first|rfl|(rw[gA])|(rw[il])),?_⟩;refine⟨.fm rfl (by first|rfl|(rw[gA])|(rw[il])),?_⟩;refine⟨.box _ rfl ?_,?_⟩;refine⟨.fb (by first|rfl|(rw[gA])|(rw[il])),?_⟩;refine⟨.fy (by first|rfl|(rw[gA])|(rw[il])),?_⟩;refine⟨.fb (by first|rfl|(rw[gA])|(rw[il])),?_⟩;refine⟨.fb (by first|rfl|(rw[gA])|(rw[il])),?_⟩;refine⟨.fy (by first|rfl|(rw[gA])|(rw[il])),?_⟩;refine⟨.fy (by first|rfl|(rw[gA])|(rw[il])),?_⟩;refine⟨.fb (by first|rfl|(rw[gA])|(rw[il])),?_⟩;refine⟨.fb (by first|rfl|(rw[gA])|(rw[il])),?_⟩;exact trivial;refine⟨.loop rfl,?_⟩;refine⟨.box _ rfl ?_,?_⟩;refine aA ?_;exact trivial;refine⟨.box _ rfl ?_,?_⟩;refine aA ?_;exact trivial;refine⟨.box _ rfl ?_,?_⟩;refine⟨.fb (by first|rfl|(rw[gA])|(rw[il])),?_⟩;exact trivial;refine⟨.box _ rfl ?_,?_⟩;refine aA ?_;exact trivial;refine⟨.box _ rfl ?_,?_⟩;refine⟨.fb (by first|rfl|(rw[gA])|(rw[il])),?_⟩;refine⟨.fy (by first|rfl|(rw[gA])|(rw[il])),?_⟩;refine⟨.fR (by first|rfl|(rw[gA])|(rw[il])) rfl,?_⟩;refine⟨.fy (by first|rfl|(rw[gA])|(rw[il])),?_⟩;exact trivial;refine aC ?_;exact trivial)) rfl⟩
    ·have nJ:=Mb (o:=0) (st:=st) (vr:=vr) s gM (fun h=>h.elim h0 fun h=>by rw[yY.trans hb] at h;cases h)
     (refine EJ ?_;refine ay ?_;refine Ke ?_;refine zd ?_;(iterate 2 refine zo ?_);(with_reducible apply AW.fG);exact rfl;exact rfl;kernel_rfl;(with_reducible assumption);refine zm ?_;refine UX ?_;refine ax ?_;refine zt ?_;refine a_.ig 71 2 2 1 rfl rfl rfl rfl ?_;refine Q0 ?_;refine yN ?_;refine a_.not rfl rfl rfl ?_;refine zT ?_;refine zd ?_;refine AW.EV rfl rfl (by assumption) ?_;refine I2 ?_;refine gr ?_;refine AW.region ?_;refine Q0 ?_;refine wb ?_)
     exact⟨(k+1,us2),gM,BZ,e_ rfl (by(refine⟨.fy (by first|rfl|(rw[nJ,yE])|(rw[nJ])),?_⟩;refine⟨.fy (by first|rfl|(rw[nJ,yE])|(rw[nJ])),?_⟩;refine⟨.fy (by first|rfl|(rw[nJ,yE])|(rw[nJ])),?_⟩;refine⟨.fb (by first|rfl|(rw[nJ,yE])|(rw[nJ])),?_⟩;refine⟨.fy (by first|rfl|(rw[nJ,yE])|(rw[nJ])),?_⟩;refine⟨.fy (by first|rfl|(rw[nJ,yE])|(rw[nJ])),?_⟩;refine⟨.fy (by first|rfl|(rw[nJ,yE])|(rw[nJ])),?_⟩;(iterate 5 refine aA ?_);exact trivial)) (by(refine⟨.fm rfl (by first|rfl|(rw[nJ,yE])|(rw[nJ])),?_⟩;refine⟨.fm rfl (by first|rfl|(rw[nJ,yE])|(rw[nJ])),?_⟩;refine⟨.box _ rfl ?_,?_⟩;refine⟨.fb (by first|rfl|(rw[nJ,yE])|(rw[nJ])),?_⟩;refine⟨.fy (by first|rfl|(rw[nJ,yE])|(rw[nJ])),?_⟩;refine⟨.fb (by first|rfl|(rw[nJ,yE])|(rw[nJ])),?_⟩;refine⟨.fb (by first|rfl|(rw[nJ,yE])|(rw[nJ])),?_⟩;refine⟨.fy (by first|rfl|(rw[nJ,yE])|(rw[nJ])),?_⟩;refine⟨.fy (by first|rfl|(rw[nJ,yE])|(rw[nJ])),?_⟩;refine⟨.fb (by first|rfl|(rw[nJ,yE])|(rw[nJ])),?_⟩;refine⟨.fb (by first|rfl|(rw[nJ,yE])|(rw[nJ])),?_⟩;exact trivial;refine⟨.loop rfl,?_⟩;refine⟨.box _ rfl ?_,?_⟩;refine aA ?_;exact trivial;refine⟨.box _ rfl ?_,?_⟩;refine aA ?_;exact trivial;refine⟨.box _ rfl ?_,?_⟩;refine⟨.fb (by first|rfl|(rw[nJ,yE])|(rw[nJ])),?_⟩;exact trivial;refine⟨.box _ rfl ?_,?_⟩;refine aA ?_;exact trivial;refine⟨.box _ rfl ?_,?_⟩;refine⟨.fb (by first|rfl|(rw[nJ,yE])|(rw[nJ])),?_⟩;refine⟨.fy (by first|rfl|(rw[nJ,yE])|(rw[nJ])),?_⟩;refine⟨.fR (by first|rfl|(rw[nJ,yE])|(rw[nJ])) rfl,?_⟩;refine⟨.fy (by first|rfl|(rw[nJ,yE])|(rw[nJ])),?_⟩;exact trivial;refine aC ?_;exact trivial)) rfl⟩
  ·obtain rfl:k=fr.length:=by omega
   have kQ:=oV 0 st fr vr s
   (refine BW ?_;refine Q7 ?_;refine vP ?_;refine Q0 ?_;refine wb ?_)
   exact⟨(s+1,us2),ft,by show st - (s+1)<st - s;omega,e_ rfl (by(refine⟨.fy (by first|rfl|(rw[kQ])),?_⟩;refine⟨.fy (by first|rfl|(rw[kQ])),?_⟩;refine⟨.fy (by first|rfl|(rw[kQ])),?_⟩;(iterate 5 refine aA ?_);exact trivial)) (by(refine⟨.fm rfl (by first|rfl|(rw[kQ])),?_⟩;refine⟨.fm rfl (by first|rfl|(rw[kQ])),?_⟩;refine⟨.box _ rfl ?_,?_⟩;refine⟨.fb (by first|rfl|(rw[kQ])),?_⟩;refine⟨.fy (by first|rfl|(rw[kQ])),?_⟩;refine⟨.fb (by first|rfl|(rw[kQ])),?_⟩;refine⟨.fb (by first|rfl|(rw[kQ])),?_⟩;refine⟨.fy (by first|rfl|(rw[kQ])),?_⟩;refine⟨.fy (by first|rfl|(rw[kQ])),?_⟩;refine⟨.fb (by first|rfl|(rw[kQ])),?_⟩;refine⟨.fb (by first|rfl|(rw[kQ])),?_⟩;exact trivial;refine⟨.loop rfl,?_⟩;refine⟨.box _ rfl ?_,?_⟩;refine aA ?_;exact trivial;refine⟨.box _ rfl ?_,?_⟩;refine aA ?_;exact trivial;refine⟨.box _ rfl ?_,?_⟩;refine⟨.fb (by first|rfl|(rw[kQ])),?_⟩;exact trivial;refine⟨.box _ rfl ?_,?_⟩;refine aA ?_;exact trivial;refine⟨.box _ rfl ?_,?_⟩;refine⟨.fb (by first|rfl|(rw[kQ])),?_⟩;refine⟨.fy (by first|rfl|(rw[kQ])),?_⟩;refine⟨.fR (by first|rfl|(rw[kQ])) rfl,?_⟩;refine⟨.fy (by first|rfl|(rw[kQ])),?_⟩;exact trivial;refine aC ?_;exact trivial)) rfl⟩
 ·obtain rfl:st=s:=by omega
  (refine BW ?_;refine Q7 ?_;refine ic (.inl rfl) rfl ?_;refine az ?_;refine gL ?_)
  (apply uM ((us1:Nat→Value)) (trivial);((exact fZ.none));((refine aA ?_;exact xE));((refine⟨.box _ rfl ?_,?_⟩;refine Zf ?_;exact trivial;exact Yp));exact rfl)
end Go.Ab
/- Chapter 24:the predicates of several permutations,in plain terms. -/
namespace Go.Ab
open Go Go.Proofs
set_option maxRecDepth 20000
set_option maxHeartbeats 4000000
def NC (p:List fq×Int) (l:List Int):List fq×Int:=jq (i_ p.1 l (ng l.length)).1 p.2 (i_ p.1 l (ng l.length)).2
def nq (gs:List fq) (ls:List (List Int)):List fq×Int:=ls.foldl NC (gs,0)
theorem Co (gs:List fq) {ls:List (List Int)} {k:Nat} (h:k<ls.length):nq gs (ls.take (k+1))=NC (nq gs (ls.take k)) ls[k]:=by
 unfold nq
 rw[dp h,List.foldl_append];rfl
theorem Oh (n:Nat):nY (ng n):=by
 unfold ng nY
 exact List.Pairwise.map _ (fun a b h=>by omega) List.pairwise_lt_range
theorem LM {n:Nat} {l:List Int} (h:qF n l):j5 l=ng n:=by
 have hp:(j5 l).Perm l:=dh l _
 have qc:(j5 l).Nodup:=hp.nodup_iff.2 h.nodup
 have hle:=AP l
 refine mh (List.Pairwise.imp₂ (fun a b h1 h2=>?_) hle qc) (Oh n) fun x=>?_
 ·exact Int.lt_iff_le_and_ne.2 ⟨h1,h2⟩
 ·rw[yc,wH]
  exact⟨fun hx=>h.wI x hx,fun hx=>h.ok.all (by rw[h.len];exact hx)⟩
theorem zH {gs:List fq} {l:List Int} {n:Nat} (hc:ke gs) (hl:qF n l) (hn:n≤1000) (hg:gs.length+6*n<18000):Pred gs (6*n) (i_ gs l (ng l.length)) (fun v=>vG v l):=by
 have h:=wq hc hl.ok (by rw[hl.len];exact hn) (ng l.length) (fun w hw=>wH.1 hw) (by rw[rF,hl.len];exact hg)
 have e:6*(ng l.length).length=6*n:=by rw[rF,hl.len]
 rw[e] at h
 refine⟨h.cir,h.ref,h.le,h.len,h.keep,fun v=>?_,h.nodup⟩
 rw[h.val v]
 unfold vG
 exact DK _ (fun w _=>rfl) fun w hw=>(Ei v (wH.1 hw)).symm
theorem Ln {gs:List fq} (hc:ke gs) {ls:List (List Int)} {n:Nat} (Hz:∀l∈ls,qF n l) (hn:n≤1000) (hg:gs.length+ls.length*(6*n+1)<18000):∀k,k≤ls.length→Pred gs (k*(6*n+1)) (nq gs (ls.take k)) (fun v=>xl v (ls.take k))
 |0,_=>⟨hc,⟨Int.le_refl _,by have:=hc.pos;show(0:Int)<2*(gs.length:Int);omega⟩,aM _,Nat.le_add_right _ _,fun v r _=>rfl,fun v=>tv hc v,fun h=>h⟩
 |k+1,hk=>by
  have ih:=Ln hc Hz hn hg k (by omega)
  have ft:k<ls.length:=by omega
  rw[Co gs ft]
  have hle:(k+1)*(6*n+1)≤ls.length*(6*n+1):=Nat.mul_le_mul_right _ hk
  rw[dq] at hle
  obtain⟨c0,r0,l0,m0,k0,v0,n0⟩:=ih
  have hp:=zH c0 (Hz _ (cT ft)) hn (by omega)
  unfold NC
  generalize nq gs (ls.take k)=p at c0 r0 l0 m0 k0 v0 n0 hp ⊢
  generalize i_ p.1 ls[k] (ng ls[k].length)=q at hp ⊢
  obtain⟨c1,r1,l1,m1,k1,v1,n1⟩:=hp
  have ga:=pO c1 (r0.mono l1) r1 (by omega)
  have va:=xi c1 (r0.mono l1) r1 (by omega)
  have la:=ga.le
  have ma:=ga.len
  refine⟨ga.cir,ga.ref,by omega,by rw[dq];omega,fun v r hr=>?_,fun v=>?_,fun h=>o_ (n1 (n0 h))⟩
  ·rw[va.keep v r ((hr.mono l0).mono l1),k1 v r (hr.mono l0),k0 v r hr]
  ·rw[va.val v,k1 v _ r0,v0 v,v1 v]
   unfold xl
   rw[dp ft,List.all_append]
   simp
end Go.Ab
/- Chapter 24:the program's circuits,walked. -/
namespace Go.Ab
open Go Go.Proofs
open Nat (reduceAdd reduceSub)
set_option maxRecDepth 20000
set_option maxHeartbeats 4000000
attribute [local irreducible] AW a_ fT ff AR fh e6 fp fA jH
theorem I1 (gs:List fq) (x:fq):Fn Tryz.prog 155 [.pv (u0 gs),gtV x] (eU (jH gs x)):=by
 refine Fn.enter (n:=19) Tryz.func155 rfl rfl rfl rfl rfl (by decide) fun g fu fw=>?_;(try refine nz ?_)
 refine AW.ub 0 rfl fun hlen=>?_
 (refine lV ?_;refine lM ?_;refine uj ?_)
 (refine nz ?_;apply AW.fO [7,3,0] [0] (fun k:Nat=>([(8,eU k)]:List (Nat×AV))) (fun k:Nat=>([]:List (Nat×Option Ob))) (fun k:Nat=>k≤gs.length∧(gs.take k).any (fun h=>decide (h=x))=false) (fun k:Nat=>gs.length - k) (0);(conv=>lhs;simp only[Nf.jI,Nf.all,c6,reduceAdd,reduceSub]);(all_goals skip))
 ·exact⟨bg _,rfl⟩
 ·exact e_ rfl (by(refine aA ?_;(iterate 3 refine aA ?_);exact trivial)) (by(refine⟨.box _ rfl ?_,?_⟩;(iterate 3 refine aA ?_);(iterate 2 exact trivial))) rfl
 rintro k ⟨hk,lz⟩
 by_cases ft:k<gs.length
 ·have hs:=HZ (g:=x) ft
  rw[lz,Bool.false_or] at hs
  by_cases he:gs[k]=x
  ·have h1:=Hq ft lz he
   have h2:=F6.1 he.symm
   rw[h1]
   (refine nR ?_;refine Q4 ?_;refine zo ?_;(with_reducible apply AW.fG);exact rfl;exact rfl;kernel_rfl;(with_reducible assumption);refine vX ?_;refine ay ?_;refine uF ?_;refine a_.VY rfl rfl aF rfl rfl rfl ?_;refine nD ?_;refine zm ?_;refine oC ?_)
   (apply c_;(exact fZ.one (.tmp rfl rfl));(refine Le.eU ?_;(rfl)))
  ·rw[decide_eq_false he] at hs
   have h2:¬(x.k=gs[k].k∧x.a=gs[k].a∧x.b=gs[k].b):=fun h=>he (F6.2 h).symm
   (refine nR ?_;refine Q4 ?_;refine zo ?_;(with_reducible apply AW.fG);exact rfl;exact rfl;kernel_rfl;(with_reducible assumption);refine vX ?_;refine ay ?_;refine uF ?_;refine a_.VY rfl rfl aF rfl rfl rfl ?_;refine zd ?_;refine zk ?_;refine AW.skip ?_;refine vT ?_)
   exact⟨k+1,⟨by omega,hs⟩,by omega,e_ rfl (by(refine aA ?_;(iterate 3 refine aA ?_);exact trivial)) (by(refine⟨.box _ rfl ?_,?_⟩;(iterate 3 refine aA ?_);(iterate 2 exact trivial))) rfl⟩
 ·rw[gV (l:=gs) aG] at lz
  rw[Kz lz]
  (refine og ?_;refine j7 ?_)
  (apply c_;(exact fZ.one (.tmp rfl rfl));(refine Le.eU ?_;(rfl)))
theorem Me (gs:List fq) (gz:0<gs.length):Fn Tryz.prog 156 [.pv (u0 gs)] (.pv (.clip 3 (gs.map QT))):=by
 refine Fn.enter (n:=9) Tryz.func156 rfl rfl rfl rfl rfl (by decide) fun g fu fw=>?_;(try refine nz ?_)
 (refine nQ ?_;(iterate 2 refine zm ?_);refine zn ?_;refine zm ?_;refine zn ?_;refine a_.Ew rfl rfl rfl rfl rfl rfl rfl rfl rfl aG ?_;refine j7 ?_)
 (apply c_;(exact fZ.one (.tmp rfl rfl));(exact Le.pv _))
theorem zO (gs:List fq) (x:fq) (hl:gs.length≤1000000) (gz:0<gs.length):Fn Tryz.prog 135 [Jx gs,gtV x] (.iR [Jx (mR gs x).1,eU (mR gs x).2]):=by
 have hf:=I1 gs x
 have nt:=Me gs gz
 have hr:=qs (gs:=gs) (g:=x)
 unfold mR
 generalize jH gs x=i at hf hr ⊢
 refine Fn.enter (n:=32) Tryz.func135 rfl rfl rfl rfl rfl (by decide) fun g fu fw=>?_;(try refine nz ?_)
 by_cases h0:0≤i
 ·rw[if_pos h0]
  (refine Sy ?_;refine zm ?_;refine a_.geq rfl rfl rfl rfl rfl ?_;refine nD ?_;refine nG ?_;refine a_.mul rfl rfl rfl rfl rfl aG ?_;refine lN ?_;refine Dl ?_)
  (apply c_;(exact fZ.two (.cell rfl rfl rfl rfl) (.tmp rfl rfl));(refine Le.nV ?_;refine gX.cons ?_ ?_;refine Le.ia ?_;refine gX.cons ?_ ?_;(with_reducible exact Le.pv _);exact gX.nil;refine gX.cons ?_ ?_;refine Le.eU ?_;(rfl);exact gX.nil))
 ·rw[if_neg h0]
  by_cases h1:20000≤gs.length
  ·rw[if_pos h1]
   (refine Sy ?_;refine zm ?_;refine Vb ?_;refine nD ?_;refine j4 ?_;refine lN ?_;refine Dl ?_)
   (apply c_;(exact fZ.two (.cell rfl rfl rfl rfl) (.tmp rfl rfl));(refine Le.nV ?_;refine gX.cons ?_ ?_;refine Le.ia ?_;refine gX.cons ?_ ?_;(with_reducible exact Le.pv _);exact gX.nil;refine gX.cons ?_ ?_;refine Le.eU ?_;(rfl);exact gX.nil))
  ·rw[if_neg h1]
   (refine Sy ?_;refine zm ?_;refine Vb ?_;refine B1 ?_;refine zo ?_;(with_reducible apply AW.TS 6 14 [2,3,4]);exact rfl;(conv=>rhs;simp only[U_,Qj,DX,w7,c6,cond_true,cond_false]);refine AW.ie [0,1,3] [11] rfl (by assumption) aF aF rfl ?_;show a_ .held _ _ _ [_,_,_] _ _;refine a_.b_ 44 0 0 rfl rfl rfl rfl ?_;refine zb ?_;refine j4 ?_;refine Q3 ?_;intro k_ jA;refine AR.free 7 aF rfl rfl rfl (jx.fieldAddr _ _ 0 rfl rfl rfl) ?_;(try refine nz ?_);apply AR.cut [7,3,1,0,2,4,5,6,8,9,10,11];intro lx;apply AR.cut [7,3,1,0,2,4,5,6,8,9,11];intro p9;apply AR.cut [7,3,1,0,2,4,5,6,8,9,10];intro LW;apply AR.cut [7,3,1,0,2,4,5,6,8,9];intro JU;apply AR.cut [7,3,1,0,2,4,5,6,8,11];intro Lm;apply AR.cut [7,3,1,0,2,4,5,6,8];intro JN;apply AR.cut [7,3,1,0,2,4,8,9,10];intro Jd;apply AR.cut [7,3,1,0,2,8,9,10];intro Vp;apply AR.cut [7,3,1,0,4,8,9,10];intro UZ;apply AR.cut [7,3,1,0,2,4,8,9];intro Rw;apply AR.cut [7,3,1,0,2,4,8];intro KI;apply AR.cut [7,3,1,0,2,8,9];intro Qk;apply AR.cut [7,3,1,0,4,8,9];intro Qc;apply AR.cut [7,3,1,0,2,8];intro PX;apply AR.cut [7,3,1,0,4,8];intro PL;apply AR.cut [7,3,1,0,2,4];intro PY;(refine AR.Bk (i:=2) (j:=4) (m:=8) rfl aF rfl rfl rfl ?_ ?_ ?_<;>intro g_ eV hG);refine zP (nt) ?_;refine Q3 ?_;(refine AR.iI (i:=4) (j:=8) rfl aF rfl rfl ?_ ?_<;>intro g_ eV hG);refine ux ?_;refine xN ?_;exact AR.perm aF PY;refine zb ?_;refine xN ?_;exact AR.perm aF PX;refine ux ?_;refine Q3 ?_;(refine AR.iI (i:=2) (j:=8) rfl aF rfl rfl ?_ ?_<;>intro g_ eV hG);refine zP (nt) ?_;refine sF ?_;refine AR.meet PY aF (fun g_=>e_ rfl ?_ ?_ rfl);exact Lv;exact y5;refine zb ?_;refine xN ?_;exact AR.perm aF PL;refine zb ?_;refine Q3 ?_;(refine AR.Bk (i:=2) (j:=4) (m:=9) rfl aF rfl rfl rfl ?_ ?_ ?_<;>intro g_ eV hG);refine zP (nt) ?_;refine sF ?_;refine AR.meet PX aF (fun g_=>e_ rfl ?_ ?_ rfl);exact Lv;refine Q8 ?_;exact Nd;refine ux ?_;refine sF ?_;refine AR.meet PL aF (fun g_=>e_ rfl ?_ ?_ rfl);exact Lv;exact y5;refine zn ?_;refine Q3 ?_;(refine AR.Bk (i:=2) (j:=4) (m:=10) rfl aF rfl rfl rfl ?_ ?_ ?_<;>intro g_ eV hG);refine zP (nt) ?_;refine xN ?_;exact AR.perm aF Qk;refine ux ?_;refine xN ?_;exact AR.perm aF Qc;refine a_.mul rfl rfl rfl rfl rfl aG ?_;refine Q3 ?_;(refine AR.iI (i:=2) (j:=4) rfl aF rfl rfl ?_ ?_<;>intro g_ eV hG);refine zP (nt) ?_;refine xN ?_;exact AR.perm aF Vp;refine ux ?_;refine xN ?_;exact AR.perm aF UZ;(refine AR.iI (i:=5) (j:=8) rfl aF rfl rfl ?_ ?_<;>intro g_ eV hG);(with_reducible apply a_.ll);exact rfl;exact ai;(iterate 8 exact rfl);exact ab;exact ab;exact ab;refine nz ?_;refine Pl ?_;(refine AR.qM (i:=8) (j:=11) rfl aF rfl rfl aF ?_ ?_<;>intro g_ eV fz);refine zb ?_;refine xN ?_;exact AR.perm aF JN;refine lN ?_;refine Q3 ?_;refine Lk ?_;intro g_ eV fz;refine zb ?_;refine xN ?_;exact AR.perm aF Lm;refine zb ?_;refine xN ?_;exact AR.perm aF KI;(refine AR.iI (i:=2) (j:=9) rfl aF rfl rfl ?_ ?_<;>intro g_ eV hG);refine zP (nt) ?_;refine sF ?_;refine AR.meet KI aF (fun g_=>e_ rfl ?_ ?_ rfl);(iterate 10 refine aA ?_);exact trivial;exact y5;refine zn ?_;refine sF ?_;refine AR.meet Qc aF (fun g_=>e_ rfl ?_ ?_ rfl);(iterate 10 refine aA ?_);exact trivial;exact y5;(refine AR.iI (i:=4) (j:=9) rfl aF rfl rfl ?_ ?_<;>intro g_ eV hG);refine ux ?_;refine sF ?_;refine AR.meet KI aF (fun g_=>e_ rfl ?_ ?_ rfl);(iterate 10 refine aA ?_);exact trivial;exact y5;refine zn ?_;refine sF ?_;refine AR.meet Qk aF (fun g_=>e_ rfl ?_ ?_ rfl);(iterate 10 refine aA ?_);exact trivial;refine Q8 ?_;exact Nd;(refine AR.iI (i:=2) (j:=10) rfl aF rfl rfl ?_ ?_<;>intro g_ eV hG);refine zP (nt) ?_;refine xN ?_;exact AR.perm aF Rw;refine a_.mul rfl rfl rfl rfl rfl aG ?_;refine sF ?_;refine AR.meet UZ aF (fun g_=>e_ rfl ?_ ?_ rfl);(iterate 11 refine aA ?_);exact trivial;exact y5;(refine AR.iI (i:=4) (j:=10) rfl aF rfl rfl ?_ ?_<;>intro g_ eV hG);refine ux ?_;refine sF ?_;refine AR.meet Rw aF (fun g_=>e_ rfl ?_ ?_ rfl);(iterate 11 refine aA ?_);exact trivial;exact y5;refine a_.mul rfl rfl rfl rfl rfl aG ?_;refine sF ?_;refine AR.meet Vp aF (fun g_=>e_ rfl ?_ ?_ rfl);(iterate 11 refine aA ?_);exact trivial;refine Q8 ?_;exact Nd;(refine AR.iI (i:=5) (j:=9) rfl aF rfl rfl ?_ ?_<;>intro g_ eV hG);(with_reducible apply a_.ll);exact rfl;exact ai;(iterate 8 exact rfl);exact ab;exact ab;exact ab;refine nz ?_;refine Pl ?_;(try refine nz ?_);refine AR.meet JN aF (fun g_=>e_ rfl ?_ ?_ rfl);(iterate 12 refine aA ?_);exact trivial;(iterate 2 refine aC ?_);refine Q8 ?_;exact Nd;refine zn ?_;refine sF ?_;refine AR.meet Rw aF (fun g_=>e_ rfl ?_ ?_ rfl);(iterate 11 refine aA ?_);exact trivial;exact y5;(refine AR.iI (i:=5) (j:=10) rfl aF rfl rfl ?_ ?_<;>intro g_ eV hG);(with_reducible apply a_.ll);exact rfl;exact ai;(iterate 8 exact rfl);exact ab;exact ab;exact ab;refine nz ?_;refine Pl ?_;(try refine nz ?_);refine Hp ?_;exact AR.perm aF JU;refine a_.mul rfl rfl rfl rfl rfl aG ?_;refine xN ?_;exact AR.perm aF Jd;refine AR.fI (i:=2) rfl aF rfl ?_;intro g_ eV hG;refine zP (nt) ?_;refine sF ?_;refine AR.meet Jd aF (fun g_=>e_ rfl ?_ ?_ rfl);(iterate 12 refine aA ?_);exact trivial;exact y5;refine AR.fI (i:=4) rfl aF rfl ?_;intro g_ eV hG;refine ux ?_;refine sF ?_;refine AR.meet Jd aF (fun g_=>e_ rfl ?_ ?_ rfl);(iterate 12 refine aA ?_);exact trivial;exact y5;refine AR.fI (i:=5) rfl aF rfl ?_;intro g_ eV hG;(with_reducible apply a_.ll);exact rfl;exact ai;(iterate 8 exact rfl);exact ab;exact ab;exact ab;refine nz ?_;refine Pl ?_;(try refine nz ?_);refine Hp ?_;exact AR.perm aF LW;(refine AR.qM (i:=9) (j:=11) rfl aF rfl rfl aF ?_ ?_<;>intro g_ eV fz);refine zn ?_;refine sF ?_;refine AR.meet JU aF (fun g_=>e_ rfl ?_ ?_ rfl);(iterate 13 refine aA ?_);exact trivial;(iterate 2 refine aC ?_);refine Q8 ?_;exact Nd;refine lN ?_;refine sF ?_;refine AR.meet Lm aF (fun g_=>e_ rfl ?_ ?_ rfl);(iterate 12 refine aA ?_);exact trivial;refine Q8 ?_;(iterate 2 refine aC ?_);exact Nd;refine EC ?_;intro g_ eV fz;refine zn ?_;refine xN ?_;exact AR.perm aF p9;(refine AR.qM (i:=10) (j:=11) rfl aF rfl rfl aF ?_ ?_<;>intro g_ eV fz);refine a_.mul rfl rfl rfl rfl rfl aG ?_;refine sF ?_;refine AR.meet LW aF (fun g_=>e_ rfl ?_ ?_ rfl);(iterate 14 refine aA ?_);exact trivial;(iterate 2 refine aC ?_);refine Q8 ?_;exact Nd;refine lN ?_;refine sF ?_;refine AR.meet p9 aF (fun g_=>e_ rfl ?_ ?_ rfl);(iterate 13 refine aA ?_);exact trivial;refine Q8 ?_;(iterate 2 refine aC ?_);exact Nd;refine AR.iz (i:=11) rfl aF rfl aF ?_;intro g_ eV fz;refine lN ?_;refine xN ?_;exact AR.perm aF lx;refine Ae ?_;intro g_ eV fz;refine a_.mul rfl rfl rfl rfl rfl aG ?_;refine sF ?_;refine AR.meet lx aF (fun g_=>e_ rfl ?_ ?_ rfl);(iterate 14 refine aA ?_);exact trivial;refine Q8 ?_;(iterate 2 refine aC ?_);exact Nd;refine AR.iz (i:=12) rfl aF rfl aF ?_;intro g_ eV fz;refine za ?_;refine sZ ?_;refine AW.ret ?_)
   (apply c_;(exact fZ.two (.cell rfl rfl rfl rfl) (.tmp rfl rfl));(refine Le.nV ?_;refine gX.cons ?_ ?_;refine Le.ia ?_;refine gX.cons ?_ ?_;refine Le.fR ?_;(first|rfl|(rw[cV];rfl));exact gX.nil;refine gX.cons ?_ ?_;refine Le.eU ?_;(first|rfl|(rw[cV];rfl));exact gX.nil))
end Go.Ab
/- Chapter 24:the program's circuits:negation,inputs,conjunctions,walked. -/
namespace Go.Ab
open Go Go.Proofs
set_option maxRecDepth 20000
set_option maxHeartbeats 4000000
attribute [local irreducible] AW a_ fT ff AR fh e6 fp fA jH n_
theorem pT (r:Int) (h: -1000000≤r∧r≤1000000):Fn Tryz.prog 79 [eU r] (eU (iD r)):=by
 unfold iD
 by_cases h0:r<0
 ·rw[if_pos h0]
  refine Fn.enter (n:=7) Tryz.func79 rfl rfl rfl rfl rfl (by decide) fun g fu fw=>?_;(try refine nz ?_)
  (refine zq ?_;refine lM ?_;refine zs ?_;refine sK ?_)
  (apply c_;(exact fZ.one (.tmp rfl rfl));(refine Le.eU ?_;(rfl)))
 ·rw[if_neg h0]
  show Fn Tryz.prog 79 [eU r] (eU (CF r))
  refine Fn.enter (n:=7) Tryz.func79 rfl rfl rfl rfl rfl (by decide) fun g fu fw=>?_;(try refine nz ?_)
  (refine zq ?_;refine lM ?_;refine zs ?_;refine qZ ?_;refine zm ?_;refine a_.Z4 rfl rfl rfl rfl rfl aG ?_;refine j7 ?_)
  (apply c_;(exact fZ.one (.tmp rfl rfl));(refine Le.eU ?_;(rfl)))
theorem H7 (gs:List fq) (v:Int) (hl:gs.length≤1000000) (gz:0<gs.length):Fn Tryz.prog 114 [Jx gs,eU v] (.iR [Jx (fW gs v).1,eU (fW gs v).2]):=by
 have hs:=zO gs ⟨1,v,0⟩ hl gz
 unfold fW
 refine Fn.enter (n:=19) Tryz.func114 rfl rfl rfl rfl rfl (by decide) fun g fu fw=>?_;(try refine nz ?_)
 by_cases h0:v<1∨20000<v
 ·rw[if_pos h0]
  (refine lV ?_;refine pZ ?_;refine lM ?_;refine zs ?_;refine zm ?_;(focus ((with_reducible apply a_.kV);(iterate 6 exact rfl);all_goals intro qp));refine zm ?_;refine wL ?_;refine nD ?_;refine j4 ?_;refine lN ?_;refine Dl ?_;(all_goals skip);rotate_left;refine a_.jM rfl rfl rfl rfl rfl rfl (by with_reducible assumption) ?_;refine zT ?_;refine tn ?_;refine j4 ?_;refine lN ?_;refine Dl ?_;(all_goals skip);rotate_left)
  all_goals (apply c_;(exact fZ.two (.cell rfl rfl rfl rfl) (.tmp rfl rfl));(refine Le.nV ?_;refine gX.cons ?_ ?_;refine Le.ia ?_;refine gX.cons ?_ ?_;(with_reducible exact Le.pv _);exact gX.nil;refine gX.cons ?_ ?_;refine Le.eU ?_;(rfl);exact gX.nil))
 ·rw[if_neg h0]
  have h1:¬v<1:=by omega
  have h2:¬20000<v:=by omega
  (refine lV ?_;refine pZ ?_;refine lM ?_;refine zs ?_;refine mW ?_;refine zm ?_;refine wL ?_;refine qZ ?_;refine nG ?_;refine a_.iW 87 [0,1] rfl rfl rfl rfl rfl rfl rfl rfl rfl ?_;refine nz ?_;refine zP (hs) ?_;(iterate 2 refine a_.extract rfl rfl rfl rfl ?_);refine lN ?_;refine j7 ?_)
  (apply c_;(exact fZ.two (.cell rfl rfl rfl rfl) (.tmp rfl rfl));(refine Le.nV ?_;refine gX.cons ?_ ?_;refine Le.ia ?_;refine gX.cons ?_ ?_;(with_reducible exact Le.pv _);exact gX.nil;refine gX.cons ?_ ?_;refine Le.eU ?_;(rfl);exact gX.nil))
theorem Gw (gs:List fq) (r:Int) (hl:gs.length≤1000000):Fn Tryz.prog 134 [eU r,.gy [.slice 3 (gs.map QT)]] (fe (decide (0≤r∧r<2*(gs.length:Int)))):=by
 by_cases h:0≤r∧r<2*(gs.length:Int)
 ·rw[decide_eq_true h]
  obtain⟨h1,h2⟩:=h
  have e2:=decide_eq_true h2
  refine Fn.enter (n:=14) Tryz.func134 rfl rfl rfl rfl rfl (by decide) fun g fu fw=>?_;(try refine nz ?_)
  (refine VU ?_)
  (apply c_;(exact fZ.one (.tmp rfl rfl));(refine Le.fe ?_;(first|rfl|(rw[e2]))))
 ·rw[decide_eq_false h]
  refine Fn.enter (n:=14) Tryz.func134 rfl rfl rfl rfl rfl (by decide) fun g fu fw=>?_;(try refine nz ?_)
  by_cases h1:0≤r
  ·have h2:¬r<2*(gs.length:Int):=fun h2=>h ⟨h1,h2⟩
   have e2:=decide_eq_false h2
   (refine VU ?_)
   (apply c_;(exact fZ.one (.tmp rfl rfl));(refine Le.fe ?_;(first|rfl|(rw[e2]))))
  ·have e1:=decide_eq_false h1
   (refine tX ?_;refine a_.geq rfl rfl rfl rfl rfl ?_;refine zm ?_;refine QV ?_;refine j7 ?_)
   (apply c_;(exact fZ.one (.tmp rfl rfl));(refine Le.fe ?_;(first|rfl|(rw[e1]))))
theorem KH {a b:Int} (ha:0≤a) (hb:0≤b):b=iD a↔a=iD b:=by
 have e1:iD a=if a % 2=0 then a+1 else a - 1:=if_neg (by omega)
 have e2:iD b=if b % 2=0 then b+1 else b - 1:=if_neg (by omega)
 rw[e1,e2]
 by_cases p:a % 2=0
 ·rw[if_pos p]
  by_cases q:b % 2=0
  ·rw[if_pos q];omega
  ·rw[if_neg q];omega
 ·rw[if_neg p]
  by_cases q:b % 2=0
  ·rw[if_pos q];omega
  ·rw[if_neg q];omega
theorem NU (gs:List fq) (a b:Int) (hl:gs.length≤400000) (gz:0<gs.length) (ha: -1000000≤a∧a≤1000000) (hb: -1000000≤b∧b≤1000000):Fn Tryz.prog 90 [Jx gs,eU a,eU b] (.iR [Jx (jq gs a b).1,eU (jq gs a b).2]):=by
 have hs:=zO gs ⟨2,min a b,max a b⟩ aG gz
 have hn:=pT b hb
 have ND:=Gw gs a (by omega)
 have B5:=Gw gs b (by omega)
 unfold jq
 by_cases h0:a<0∨b<0∨2*(gs.length:Int)≤a∨2*(gs.length:Int)≤b
 ·rw[if_pos h0]
  by_cases hx:0≤a∧a<2*(gs.length:Int)
  ·have hy:¬(0≤b∧b<2*(gs.length:Int)):=by omega
   rw[decide_eq_true hx] at ND
   rw[decide_eq_false hy] at B5
   refine Fn.enter (n:=62) Tryz.func90 rfl rfl rfl rfl rfl (by decide) fun g fu fw=>?_;(try refine nz ?_)
   (refine TT ?_;refine zl ?_;refine a_.iX rfl rfl rfl ?_;refine oq ?_;refine zC (B5) ?_;refine CY ?_;refine a_.jk rfl rfl rfl rfl rfl rfl ?_;refine Ol ?_)
   (apply c_;(exact fZ.two (.cell rfl rfl rfl rfl) (.tmp rfl rfl));(refine Le.nV ?_;refine gX.cons ?_ ?_;refine Le.ia ?_;refine gX.cons ?_ ?_;(with_reducible exact Le.pv _);exact gX.nil;refine gX.cons ?_ ?_;refine Le.eU ?_;(rfl);exact gX.nil))
  ·rw[decide_eq_false hx] at ND
   refine Fn.enter (n:=62) Tryz.func90 rfl rfl rfl rfl rfl (by decide) fun g fu fw=>?_;(try refine nz ?_)
   (refine TT ?_;refine Du ?_;refine a_.kv rfl rfl rfl rfl rfl rfl ?_;refine Ol ?_)
   (apply c_;(exact fZ.two (.cell rfl rfl rfl rfl) (.tmp rfl rfl));(refine Le.nV ?_;refine gX.cons ?_ ?_;refine Le.ia ?_;refine gX.cons ?_ ?_;(with_reducible exact Le.pv _);exact gX.nil;refine gX.cons ?_ ?_;refine Le.eU ?_;(rfl);exact gX.nil))
 ·rw[if_neg h0]
  have hx:0≤a∧a<2*(gs.length:Int):=by omega
  have hy:0≤b∧b<2*(gs.length:Int):=by omega
  rw[decide_eq_true hx] at ND
  rw[decide_eq_true hy] at B5
  have hinv:=KH (a:=a) (b:=b) aG (by omega)
  generalize iD b=nb at hn hinv ⊢
  by_cases h5:a=1∨b=1∨b=iD a
  ·rw[if_pos h5]
   have h5':a=1∨b=1∨a=nb:=h5.imp id (fun h=>h.imp id hinv.1)
   refine Fn.enter (n:=62) Tryz.func90 rfl rfl rfl rfl rfl (by decide) fun g fu fw=>?_;(try refine nz ?_)
   by_cases j1:a=1
   ·(refine Xp ?_;refine Ie ?_;refine zm ?_;refine Du ?_;refine a_.kv rfl rfl rfl rfl rfl rfl ?_;refine Ol ?_)
    (apply c_;(exact fZ.two (.cell rfl rfl rfl rfl) (.tmp rfl rfl));(refine Le.nV ?_;refine gX.cons ?_ ?_;refine Le.ia ?_;refine gX.cons ?_ ?_;(with_reducible exact Le.pv _);exact gX.nil;refine gX.cons ?_ ?_;refine Le.eU ?_;(rfl);exact gX.nil))
   ·by_cases j2:b=1
    ·(refine Xp ?_;refine zy ?_;refine mW ?_;refine a_.eql rfl rfl rfl rfl rfl ?_;refine zF ?_;refine zm ?_;refine SN ?_;refine Ol ?_)
     (apply c_;(exact fZ.two (.cell rfl rfl rfl rfl) (.tmp rfl rfl));(refine Le.nV ?_;refine gX.cons ?_ ?_;refine Le.ia ?_;refine gX.cons ?_ ?_;(with_reducible exact Le.pv _);exact gX.nil;refine gX.cons ?_ ?_;refine Le.eU ?_;(rfl);exact gX.nil))
    ·have j3:a=nb:=by omega
     (refine Xr ?_;refine zc ?_;refine Q5 ?_;refine j4 ?_;refine JR ?_)
     (apply c_;(exact fZ.two (.cell rfl rfl rfl rfl) (.tmp rfl rfl));(refine Le.nV ?_;refine gX.cons ?_ ?_;refine Le.ia ?_;refine gX.cons ?_ ?_;(with_reducible exact Le.pv _);exact gX.nil;refine gX.cons ?_ ?_;refine Le.eU ?_;(rfl);exact gX.nil))
  ·rw[if_neg h5]
   have k1:¬a=1:=fun h=>h5 (.inl h)
   have k2:¬b=1:=fun h=>h5 (.inr (.inl h))
   have k3:¬a=nb:=fun h=>h5 (.inr (.inr (hinv.2 h)))
   refine Fn.enter (n:=62) Tryz.func90 rfl rfl rfl rfl rfl (by decide) fun g fu fw=>?_;(try refine nz ?_)
   by_cases h6:a=0
   ·rw[if_pos h6]
    (refine Xr ?_;refine zk ?_;refine Q5 ?_;refine rh ?_;refine Q4 ?_;refine zc ?_;refine Q5 ?_;refine nG ?_;refine JR ?_)
    (apply c_;(exact fZ.two (.cell rfl rfl rfl rfl) (.tmp rfl rfl));(refine Le.nV ?_;refine gX.cons ?_ ?_;refine Le.ia ?_;refine gX.cons ?_ ?_;(with_reducible exact Le.pv _);exact gX.nil;refine gX.cons ?_ ?_;refine Le.eU ?_;(rfl);exact gX.nil))
   ·rw[if_neg h6]
    by_cases h7:b=0∨a=b
    ·rw[if_pos h7]
     by_cases j1:b=0
     ·(refine RZ ?_;refine zm ?_;refine RQ ?_;refine Q4 ?_;refine AW.qb rfl rfl ?_;refine Q5 ?_;refine nG ?_;refine JR ?_)
      (apply c_;(exact fZ.two (.cell rfl rfl rfl rfl) (.tmp rfl rfl));(refine Le.nV ?_;refine gX.cons ?_ ?_;refine Le.ia ?_;refine gX.cons ?_ ?_;(with_reducible exact Le.pv _);exact gX.nil;refine gX.cons ?_ ?_;refine Le.eU ?_;(rfl);exact gX.nil))
     ·have j2:a=b:=by omega
      (refine RZ ?_;refine nS ?_;refine mW ?_;refine a_.eql rfl rfl rfl rfl rfl ?_;refine zF ?_;refine Q4 ?_;refine zc ?_;refine Q5 ?_;refine nG ?_;refine JR ?_)
      (apply c_;(exact fZ.two (.cell rfl rfl rfl rfl) (.tmp rfl rfl));(refine Le.nV ?_;refine gX.cons ?_ ?_;refine Le.ia ?_;refine gX.cons ?_ ?_;(with_reducible exact Le.pv _);exact gX.nil;refine gX.cons ?_ ?_;refine Le.eU ?_;(rfl);exact gX.nil))
    ·rw[if_neg h7]
     have m1:¬b=0:=by omega
     have m2:¬a=b:=by omega
     (refine RZ ?_;refine nS ?_;refine mW ?_;refine a_.eql rfl rfl rfl rfl rfl ?_;refine zF ?_;refine Q4 ?_;refine zk ?_;refine AW.skip ?_;refine gL ?_;refine H5 ?_;refine vX ?_;refine a_.min2 rfl rfl rfl rfl rfl ?_;(iterate 2 refine zm ?_);refine a_.max2 rfl rfl rfl rfl rfl ?_;refine a_.iW 87 [0,1,2] rfl rfl rfl rfl rfl rfl rfl rfl rfl ?_;refine nz ?_;refine zP (hs) ?_;(iterate 2 refine a_.extract rfl rfl rfl rfl ?_);refine lN ?_;refine j7 ?_)
     (apply c_;(exact fZ.two (.cell rfl rfl rfl rfl) (.tmp rfl rfl));(refine Le.nV ?_;refine gX.cons ?_ ?_;refine Le.ia ?_;refine gX.cons ?_ ?_;(with_reducible exact Le.pv _);exact gX.nil;refine gX.cons ?_ ?_;refine Le.eU ?_;(rfl);exact gX.nil))
end Go.Ab
/- Chapter 24:the builder of predicates:its methods;the inverse of a permutation,walked. -/
namespace Go.Ab
open Go Go.Proofs
open Nat (reduceAdd reduceSub)
set_option maxRecDepth 20000
set_option maxHeartbeats 4000000
def oe (perm:List Int) (k:Nat):List Int:=(a7 perm.length).map fun j:Nat=>if perm.findIdx (fun x=>decide (x=(j:Int)+1))<k then gw perm ((j:Int)+1) else 0
theorem zM (perm:List Int) (k:Nat):(oe perm k).length=perm.length:=by simp [oe]
theorem kc (perm:List Int):oe perm 0=bX perm.length 0:=by
 rw[List.eq_replicate_iff]
 refine⟨zM perm 0,fun x hx=>?_⟩
 obtain⟨j,_,rfl⟩:=bt.1 hx
 rw[if_neg aG]
theorem Iv {perm:List Int} (h:iL perm):oe perm perm.length=jy perm:=by
 unfold oe jy
 refine dj fun j hj=>?_
 have hj:=dk.1 hj
 obtain⟨i,hi,h1,_⟩:=h.at (w:=(j:Int)+1) (by omega)
 rw[if_pos aG]
theorem G3 {perm:List Int} (h:iL perm) {k:Nat} (hk:k<perm.length):(oe perm k).set (perm[k] - 1).toNat ((k:Int)+1)=oe perm (k+1):=by
 have hr:=h.wI _ (cT hk)
 refine List.ext_getElem (by simp [oe]) fun j h1 h2=>?_
 have hj:j<perm.length:=by simpa [oe] using h2
 obtain⟨i,hi,i1,i2⟩:=h.at (w:=(j:Int)+1) (by omega)
 rw[List.getElem_set]
 simp only[oe,de,df,i1]
 by_cases e:(perm[k] - 1).toNat=j
 ·rw[if_pos e]
  have e2:perm[i]=perm[k]:=by rw[i2];omega
  have:=(di h.nodup).1 e2
  subst this
  rw[if_pos aG]
  unfold gw
  rw[i1]
 ·rw[if_neg e]
  have:i≠k:=by rintro rfl;omega
  by_cases U6:i<k
  ·rw[if_pos U6,if_pos aG]
  ·rw[if_neg U6,if_neg aG]
theorem GP (l:List Int) (i:Nat) (x:Int):(l.map encI).set i [PV.lit (.int .i64 x)]=(l.set i x).map encI:=by
 rw[List.map_set];rfl
attribute [local irreducible] AW a_ fT ff AR fh e6 fp fA jH n_ oe jy
theorem yo (perm:List Int) (h:iL perm) (hl:perm.length≤100000):Fn Tryz.prog 38 [.pv (ints perm)] (.pv (ints (jy perm))):=by
 refine Fn.enter (n:=24) Tryz.func38 rfl rfl rfl rfl rfl (by decide) fun g fu fw=>?_;(try refine nz ?_)
 (refine tX ?_;refine zn ?_;refine a_.pX rfl rfl rfl rfl rfl rfl rfl rfl rfl rfl aG ?_;refine sM ?_;refine Hw ?_;refine zm ?_;refine uj ?_)
 (refine nz ?_;apply AW.fO [10,9,2] [] (fun k:Nat=>([(11,eU k),(3,.own 0 3 1 ((oe perm k).map encI))]:List (Nat×AV))) (fun k:Nat=>([(0,some .row)]:List (Nat×Option Ob))) (fun k:Nat=>k≤perm.length) (fun k:Nat=>perm.length - k) (0);(conv=>lhs;simp only[Nf.jI,Nf.all,c6,reduceAdd,reduceSub]);(all_goals skip))
 ·exact bg _
 ·exact e_ rfl (by(refine⟨.d_ (by first|rfl|(rw[kc,dr];rfl)|(show bX _ _=dm encI _;rw[kc,dr,dg];rfl)),?_⟩;refine⟨.fR (by first|rfl|(rw[kc,dr];rfl)|(show bX _ _=dm encI _;rw[kc,dr,dg];rfl)) rfl,?_⟩;refine⟨.d_ (by first|rfl|(rw[kc,dr];rfl)|(show bX _ _=dm encI _;rw[kc,dr,dg];rfl)),?_⟩;refine⟨.fb (by first|rfl|(rw[kc,dr];rfl)|(show bX _ _=dm encI _;rw[kc,dr,dg];rfl)),?_⟩;refine aA ?_;exact trivial)) (by(refine aC ?_;exact trivial)) rfl
 rintro k hk
 have zV:=zM perm k
 by_cases ft:k<perm.length
 ·have ij:=G3 h ft
  have hr:=h.wI _ (cT ft)
  (refine nR ?_;refine ay ?_;refine MO ?_;refine BY ?_;refine y6 ?_;refine zm ?_;refine zj ?_;refine a_.rm rfl rfl rfl rfl rfl rfl rfl aG aG ?_;refine a_.qE rfl rfl rfl rfl rfl rfl rfl rfl ?_;refine a_.nil ?_;refine vT ?_)
  exact⟨k+1,by omega,by omega,e_ rfl (by(refine⟨.d_ (by first|rfl|(rw[GP,ij])),?_⟩;refine⟨.fR (by first|rfl|(rw[GP,ij])) rfl,?_⟩;refine⟨.d_ (by first|rfl|(rw[GP,ij])),?_⟩;refine⟨.fb (by first|rfl|(rw[GP,ij])),?_⟩;refine aA ?_;exact trivial)) (by(refine aC ?_;exact trivial)) rfl⟩
 ·obtain rfl:k=perm.length:=by omega
  rw[Iv h]
  (refine og ?_;refine GW ?_)
  (apply c_;(exact fZ.one (.tmp rfl rfl));(exact Le.own _ _ _ _ rfl))
abbrev bO (gs:List fq):List (Nat×Option Ob):=[(0,some (.box [.pv (u0 gs)]))]
theorem Ax (gs:List fq) (v:Int) (hl:gs.length≤1000000) (gz:0<gs.length):vW Tryz.prog 78 1 (bO gs) [.ptr 0 0,eU v] (bO (fW gs v).1) (eU (fW gs v).2):=by
 have hi:=H7 gs v hl gz
 generalize fW gs v=p at hi ⊢
 obtain⟨gs',r⟩:=p
 simp only at hi ⊢
 refine vW.enter (n:=21) Tryz.func78 rfl rfl rfl rfl rfl (by decide) rfl rfl fun g fu fw=>?_;refine LF ?_
 (refine nQ ?_;refine IV ?_;refine a_.b_ 80 0 0 rfl rfl rfl rfl ?_;refine nG ?_;refine T9 ?_;refine zm ?_;refine j7 ?_)
 (apply jf;((exact fZ.one (.tmp rfl rfl)));((refine HD ?_;exact xE));((exact G_));exact rfl)
theorem tJ (gs:List fq) (a b:Int) (hl:gs.length≤400000) (gz:0<gs.length) (ha: -1000000≤a∧a≤1000000) (hb: -1000000≤b∧b≤1000000):vW Tryz.prog 46 1 (bO gs) [.ptr 0 0,eU a,eU b] (bO (jq gs a b).1) (eU (jq gs a b).2):=by
 have hi:=NU gs a b hl gz ha hb
 generalize jq gs a b=p at hi ⊢
 obtain⟨gs',r⟩:=p
 simp only at hi ⊢
 refine vW.enter (n:=24) Tryz.func46 rfl rfl rfl rfl rfl (by decide) rfl rfl fun g fu fw=>?_;refine LF ?_
 (refine nQ ?_;refine IV ?_;refine a_.b_ 80 0 0 rfl rfl rfl rfl ?_;refine vX ?_;refine T9 ?_;refine zm ?_;refine j7 ?_)
 (apply jf;((exact fZ.one (.tmp rfl rfl)));((refine HD ?_;exact xE));((exact G_));exact rfl)
theorem Sv (gs:List fq) (a b:Int) (hl:gs.length≤100000) (gz:0<gs.length) (ha: -500000≤a∧a≤500000) (hb: -500000≤b∧b≤500000):vW Tryz.prog 80 1 (bO gs) [.ptr 0 0,eU a,eU b] (bO (Jo gs a b).1) (eU (Jo gs a b).2):=by
 have h1:=pT a (by omega)
 have h2:=pT b (by omega)
 have b1:=My ha
 have b2:=My hb
 have h3:=tJ gs (iD a) (iD b) aG gz aG (by omega)
 have q3:=Rc (gs:=gs) (a:=iD a) (b:=iD b) aG aG (by omega)
 unfold Jo
 generalize jq gs (iD a) (iD b)=p at h3 q3 ⊢
 generalize iD a=na at h1 h3 b1
 generalize iD b=nb at h2 h3 b2
 obtain⟨gs',r⟩:=p
 simp only at h3 q3 ⊢
 have h4:=pT r (by omega)
 generalize iD r=nr at h4 ⊢
 refine vW.enter (n:=14) Tryz.func80 rfl rfl rfl rfl rfl (by decide) rfl rfl fun g fu fw=>?_;refine LF ?_
 (refine nQ ?_;refine a_.j_ rfl rfl rfl ?_;refine zm ?_;refine zA (h1) ?_;refine zm ?_;refine zA (h2) ?_;refine zX (h3) ?_;refine vn ?_;refine zA (h4) ?_;refine j7 ?_)
 (apply jf;((exact fZ.one (.tmp rfl rfl)));((refine HD ?_;exact xE));((exact G_));exact rfl)
end Go.Ab
