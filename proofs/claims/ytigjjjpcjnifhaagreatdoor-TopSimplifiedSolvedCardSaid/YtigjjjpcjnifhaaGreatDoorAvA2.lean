/- Chapter 23: the checker's answers; the laws' limits. -/
import Derived.Test.YtigjjjpcjnifhaaGreatDoorAvU6
import Derived.Test.YtigjjjpcjnifhaaGreatDoorAbZ
import Derived.Test.YtigjjjpcjnifhaaGreatDoorAbL3
import Derived.Test.YtigjjjpcjnifhaaGreatDoorAvC2
import Derived.Test.YtigjjjpcjnifhaaGreatDoorAbL2
import Derived.Test.YtigjjjpcjnifhaaGreatDoorRows
import Derived.Test.YtigjjjpcjnifhaaGreatDoorAbL4
set_option linter.unusedSimpArgs false
set_option linter.unusedVariables false
open Nat renaming le_refl→aP,zero_le→bm,reduceBEq→di
open Bool renaming true_and→c6,false_and→c7,and_eq_true→aZ
open List renaming mem_cons→bw,getD_eq_getElem?_getD→c8,getElem?_append_left→aT,length_append→bW,take_length→da,getElem_mem→cZ,of_mem_zip→db,getElem_of_mem→dc,mem_append→bX,mem_map→bx,mem_filter→de,map_cons→bB,nodup_cons→cY,nodup_append→cp,getElem?_eq_getElem→a8,all_eq_true→bD,any_eq_true→df,getElem_map→dj,mem_singleton→cq,set_set→dk,drop_eq_getElem_cons→dm,foldl_cons→ct,take_succ_eq_append_getElem→dp,foldl_append→dq,map_append→cV,map_nil→b8,take_zero→dr,mem_of_mem_take→cT,map_take→cW,getElem_inj→du,ext_getElem→dw,getElem_set→dx,getElem_range→dy,take_append_drop→dz,mem_map_of_mem→dA
open Int renaming zero_sub→dh,toNat_natCast→dt,neg_neg→dv
open Option renaming getD_some→bn
namespace Go.Ab
open Go Go.Proofs
set_option maxRecDepth 20000
set_option maxHeartbeats 8000000
theorem Ej (e:py):∀(l:List gB) (s:nM),(jg e s l).2≤l.length
 |[],s=>by rw[vm];exact aP _
 |t::l,s=>by
  unfold jg
  cases hO e s t with
  |none=>exact bm _
  |some s'=>exact Nat.succ_le_succ (Ej e l s')
structure Lq (v:Int) (cl:List (List Int)) (syms:List (List Int)) (l:List gB):Prop where
 hv:0≤v∧v≤20000
 iR:∀c∈cl,eX v c=true∧c.length≤1000
 len:cl.length≤1000
 HI:syms.length≤1000∧∀c∈syms,c.length≤1000
 hl:wS l≤900000∧∀t∈l,t.lits.length≤900
 Z5:l.length≤20000
theorem Lq.ok {v:Int} {cl:List (List Int)} {syms:List (List Int)} {l:List gB} (h:Lq v cl syms l):mR 1000 (iE v cl):=⟨h.hv,h.iR,h.len⟩
theorem Lq.f {v:Int} {cl:List (List Int)} {syms:List (List Int)} {l:List gB} (h:Lq v cl syms l):Qm v cl:=h.ok.f (by omega)
attribute [local irreducible] AW a_ gb fq AR fz fk fJ fX canon iV j3 nP pf mr eX iM gR jg hO
theorem wb (v:Int) (cl:List (List Int)) (syms:List (List Int)) (l:List gB) (h:Lq v cl syms l):
  Fn Tryz.prog 11 [F7 v cl,.pv (jj syms),.pv (steps l)] (fh (decide ((jg ⟨v,cl,syms⟩ (iE v cl) l).2=l.length) && (jg ⟨v,cl,syms⟩ (iE v cl) l).1.ref)):=by
 have hr:=O0 v cl syms l h.ok h.HI h.hl
 have hle:=Ej ⟨v,cl,syms⟩ l (iE v cl)
 have hl:=h.Z5
 generalize jg ⟨v,cl,syms⟩ (iE v cl) l=R at hr hle ⊢
 obtain⟨⟨sv,scl,rf⟩,n⟩:=R
 simp only at hr hle ⊢
 by_cases he:n=l.length
 ·have UX:(n:Int)=l.length:=by omega
  rw[decide_eq_true he,c6]
  refine Fn.enter (n:=29) Tryz.func11 rfl rfl rfl rfl rfl (by decide) fun g fD fB=>?_;(try refine nz ?_)
  (refine v8 ?_;refine zm ?_;refine Rg ?_;refine zm ?_;refine zt ?_;refine a_.sV rfl rfl rfl ?_;refine zt ?_;refine a_.qE rfl rfl rfl ?_;refine zt ?_;refine a_.rZ 59 4 5 1 rfl rfl rfl rfl ?_;refine nz ?_;refine zt ?_;refine zr ?_;refine zT ?_;refine kQ ?_)
  (apply e6;(exact gk.one (.tmp rfl rfl));(refine Le.fh ?_;(rfl)))
 ·have UX:¬(n:Int)=l.length:=by omega
  rw[decide_eq_false he,c7]
  refine Fn.enter (n:=29) Tryz.func11 rfl rfl rfl rfl rfl (by decide) fun g fD fB=>?_;(try refine nz ?_)
  (refine v8 ?_;refine zm ?_;refine Rg ?_;refine zm ?_;(iterate 4 refine a_.oo rfl rfl rfl rfl rfl rfl (by with_reducible assumption) ?_);refine zF ?_;refine kQ ?_)
  (apply e6;(exact gk.one (.tmp rfl rfl));(refine Le.fh ?_;(rfl)))
end Go.Ab
/- Chapter 20:what a reason says;the levels' plain part. -/
namespace Go.Ab
open Go Go.Proofs
set_option maxRecDepth 20000
set_option maxHeartbeats 4000000
theorem oR (tr:List Int):∀(c out r:List Int),fP tr c out=some r→(∀y∈out,y∈r)∧∀y∈c,y∉tr∧((-y)∈tr∨y∈r):=by
 intro c
 induction c with
 |nil=>intro out r h;simp only[fP,Option.some.injEq] at h;subst h;exact⟨fun y hy=>hy,by simp⟩
 |cons x c ih=>
  intro out r h
  unfold fP at h
  split at h
  ·cases h
  ·rename_i hx
   obtain⟨h1,h2⟩:=ih _ _ h
   refine⟨fun y hy=>?_,fun y hy=>?_⟩
   ·refine h1 y ?_
    split
    ·simp [hy]
    ·exact hy
   ·rcases bw.1 hy with rfl|hy
    ·refine⟨hx,?_⟩
     by_cases hn:(-y)∈tr
     ·exact .inl hn
     ·refine .inr (h1 y ?_)
      by_cases ho:y∈out
      ·rw[if_neg (by simp [ho])];exact ho
      ·rw[if_pos ⟨hn,ho⟩];simp
    ·exact h2 y hy
theorem yE {c tr:List Int} (h0:∀x∈c,x≠0) {x:Int} (h:(gZ c tr).1=2) (hx:(gZ c tr).2=x):fP tr c []=some [x]:=by
 rw[mx c tr h0] at h hx
 cases ho:fP tr c [] with
 |none=>rw[ho] at h;simp [qA] at h
 |some r=>
  rw[ho] at h hx
  match r,h,hx with
  |[],h,_=>simp [qA] at h
  |[y],_,hx=>simp [qA] at hx;rw[hx]
  |_::_::_,h,_=>simp [qA] at h
def PL (cl:List (List Int)) (t:Tr):Prop:=∀k,k<t.1.length→0≤t.2.1.getD k 0→
 t.1.getD k 0∈cl.getD (t.2.1.getD k 0).toNat []∧∀y∈cl.getD (t.2.1.getD k 0).toNat [],y≠t.1.getD k 0→(-y)∈t.1.take k
theorem wa {α:Type} {l m:List α} {k:Nat} {d:α} (h:k<l.length):(l++m).getD k d=l.getD k d:=by
 simp [c8,aT h]
theorem Ca {α:Type} {l:List α} {x d:α}:(l++ [x]).getD l.length d=x:=by
 simp [c8]
theorem AY {α:Type} {l m:List α} {k:Nat} (h:k≤l.length):(l++m).take k=l.take k:=by
 rw[List.take_append_of_le_length h]
theorem PL.push {cl:List (List Int)} {t:Tr} (h:PL cl t) (he:qx t) {x r:Int}
  (hn:0≤r→x∈cl.getD r.toNat []∧∀y∈cl.getD r.toNat [],y≠x→(-y)∈t.1):PL cl (t.1++ [x],t.2.1++ [r],t.2.2):=by
 intro k hk hr
 have UX:t.2.1.length=t.1.length:=he
 simp only[bW,List.length_singleton] at hk
 simp only at hr ⊢
 by_cases rE:k<t.1.length
 ·rw[wa aJ] at hr
  rw[wa rE,wa aJ,AY aJ]
  exact h k rE hr
 ·have ZI:k=t.1.length:=by omega
  subst ZI
  have e1:(t.2.1++ [r]).getD t.1.length 0=r:=by rw[← UX];exact Ca
  rw[e1] at hr ⊢
  rw[Ca,AY (aP _),da]
  exact hn hr
theorem PL.add {cl:List (List Int)} {t:Tr} (h:PL cl t) (he:qx t) (x:Int):PL cl (mA t x):=by
 unfold mA
 split
 ·exact h
 ·exact h.push he (fun h=>by omega)
end Go.Ab
/- Chapter 20:how the run ends,in plain terms. -/
namespace Go.Ab
open Go Go.Proofs
set_option maxRecDepth 20000
set_option maxHeartbeats 4000000
theorem s8 (tr:List Int):∀(c:List Int) (left:Int),(ij tr c left).1=0∨(ij tr c left).1=1∨(ij tr c left).1=2:=by
 intro c
 induction c with
 |nil=>intro left;unfold ij;split<;>simp
 |cons x c ih=>intro left;unfold ij;split;exact .inl rfl;exact ih _
theorem xp (c tr:List Int):(gZ c tr).1=0∨(gZ c tr).1=1∨(gZ c tr).1=2:=s8 tr c 0
theorem q8 (t:Tr):∀(cl:List (List Int)) (i:Nat),
  (∃j,∃h:j<cl.length,(gZ cl[j] t.1).1=1∧kq t i cl=((t.1,t.2.1,((i+j:Nat):Int)),false))∨
  (∃j,∃h:j<cl.length,(gZ cl[j] t.1).1=2∧kq t i cl=((t.1++ [(gZ cl[j] t.1).2],t.2.1++ [((i+j:Nat):Int)],t.2.2),true))∨
  ((∀c∈cl,(gZ c t.1).1=0)∧kq t i cl=(t,false)):=by
 intro cl
 induction cl with
 |nil=>intro i;exact .inr (.inr ⟨by simp,rfl⟩)
 |cons c cl ih=>
  intro i
  unfold kq
  rcases xp c t.1 with h|h|h
  ·rw[if_neg aJ,if_neg aJ]
   rcases ih (i+1) with ⟨j,hj,h1,h2⟩|⟨j,hj,h1,h2⟩|⟨h1,h2⟩
   ·refine .inl ⟨j+1,by simp;omega,by simpa using h1,?_⟩
    rw[show((i:Int)+1)=((i+1:Nat):Int) from by simp,h2,show i+1+j=i+(j+1) from by omega]
   ·refine .inr (.inl ⟨j+1,by simp;omega,by simpa using h1,?_⟩)
    rw[show((i:Int)+1)=((i+1:Nat):Int) from by simp,h2,show i+1+j=i+(j+1) from by omega]
    simp
   ·refine .inr (.inr ⟨?_,?_⟩)
    ·intro d hd
     rcases bw.1 hd with rfl|hd
     ·exact h
     ·exact h1 d hd
    ·rw[show((i:Int)+1)=((i+1:Nat):Int) from by simp,h2]
  ·rw[if_pos h]
   exact .inl ⟨0,by simp,by simpa using h,by simp⟩
  ·rw[if_neg aJ,if_pos h]
   exact .inr (.inl ⟨0,by simp,by simpa using h,by simp⟩)
theorem Ex {vars:Int} {cl:List (List Int)} {assume:List Int} (hv:0≤vars) (iR:∀c∈cl,eX vars c=true) (hw:eX vars assume=true) (hc:gy assume=false)
  (I:Tr→Prop) (h0:I (il assume))
  (hs:∀(t:Tr) (j:Nat) (h:j<cl.length) (x:Int),I t→pA vars t.1→qx t→fP t.1 cl[j] []=some [x]→x∈cl[j]→x∉t.1→(-x)∉t.1→I (t.1++ [x],t.2.1++ [(j:Int)],-1)):
  ∃t,I t∧pA vars t.1∧qx t∧t.2.2= -1∧kP cl t=(runM vars cl assume,false):=by
 have key:∀(m n:Nat) (t:Tr),(vars+1 - (n:Int)).toNat≤m→xr vars cl assume t n→I t→∃t,I t∧pA vars t.1∧qx t∧t.2.2= -1∧kP cl t=(runM vars cl assume,false):=by
  intro m
  induction m with
  |zero=>intro n t h1 h2 _;have:=h2.fuel hv;omega
  |succ m ih=>
   intro n t h1 h2 h3
   rcases q8 t cl 0 with ⟨j,hj,h4,h5⟩|⟨j,hj,h4,h5⟩|⟨h4,h5⟩
   ·exact⟨t,h3,h2.dist,h2.even,h2.CF,by rw[h2.stop hv h5];exact h5⟩
   ·have Nc:=fE (iR _ (cZ hj))
    have wy:=yE (fun x hx=>(Nc x hx).1) h4 rfl
    have hm:=oP t.1 cl[j] [] _ wy (by simp) (gZ cl[j] t.1).2 (by simp)
    have iJ:(gZ cl[j] t.1).2∈cl[j]:=by simpa using hm.1
    have h6:=h2.go hv h5 (Nc _ iJ) hm.2.1 hm.2.2
    refine ih (n+1) _ ?_ h6 ?_
    ·have:=h2.fuel hv;omega
    ·simpa using hs t j hj _ h3 h2.dist h2.even wy iJ hm.2.1 hm.2.2
   ·exact⟨t,h3,h2.dist,h2.even,h2.CF,by rw[h2.stop hv h5];exact h5⟩
 exact key _ 0 _ (aP _) (vT hv hw hc) h0
def MA (assume:List Int) (t:Tr):Prop:=(∀x∈assume,x∈t.1)∧∀p∈pr t,p.2<0→p.1∈assume
theorem Oa {t:Tr} (h:qx t) (x r:Int) (k:Int):pr (t.1++ [x],t.2.1++ [r],k)=pr t++ [(x,r)]:=by
 unfold pr
 show(t.1++ [x]).zip (t.2.1++ [r])=_
 rw[List.zip_append h.symm]
 rfl
theorem HJ (assume:List Int):MA assume (il assume):=by
 refine⟨fun x hx=>(oF assume x).2 hx,fun p hp _=>?_⟩
 obtain⟨a,b⟩:=p
 exact(oF assume a).1 (db hp).1
theorem Nn {t:Tr} (h:qx t) {x:Int} (hx:x∈t.1):∃r,(x,r)∈pr t:=by
 obtain⟨k,hk,rfl⟩:=dc hx
 have rE:k<t.2.1.length:=by rw[h];exact hk
 refine⟨t.2.1[k],?_⟩
 have:(pr t)[k]'(by simp [pr];omega)=(t.1[k],t.2.1[k]):=by simp [pr]
 rw[← this]
 exact cZ _
theorem NG {assume:List Int} {t:Tr} (h:MA assume t) (he:qx t) (x:Int):x∈t.1↔x∈assume++(impl (pr t)).map (·.1):=by
 rw[bX,bx]
 constructor
 ·intro hx
  obtain⟨r,hr⟩:=Nn he hx
  by_cases h0:r<0
  ·exact .inl (h.2 _ hr h0)
  ·exact .inr ⟨(x,r),by unfold impl;rw[de];exact⟨hr,by simp;omega⟩,rfl⟩
 ·rintro(hx|⟨⟨a,b⟩,hp,rfl⟩)
  ·exact h.1 x hx
  ·unfold impl at hp
   rw[de] at hp
   exact(db hp.1).1
structure Fin (vars:Int) (cl:List (List Int)) (assume:List Int) (t:Tr):Prop where
 dist:pA vars t.1
 even:qx t
 mem:∀x,x∈t.1↔x∈assume++(impl (pr t)).map (·.1)
 fin:(t.2.2= -1∧∀c∈cl,(gZ c t.1).1=0)∨∃j,∃h:j<cl.length,t.2.2=(j:Int)∧(gZ cl[j] t.1).1=1
theorem Ad {vars:Int} {cl:List (List Int)} {assume:List Int} (hv:0≤vars) (iR:∀c∈cl,eX vars c=true) (hw:eX vars assume=true) (hc:gy assume=false):Fin vars cl assume (runM vars cl assume):=by
 obtain⟨t,h1,h2,h3,h4,h5⟩:=Ex hv iR hw hc (MA assume) (HJ assume) (by
  intro t j hj x h1 h2 h3 _ _ _ _
  refine⟨fun y hy=>bX.2 (.inl (h1.1 y hy)),fun p hp h0=>?_⟩
  rw[Oa h3] at hp
  rcases bX.1 hp with hp|hp
  ·exact h1.2 p hp h0
  ·simp at hp;subst hp;simp at h0;omega)
 have hm:=NG h1 h3
 rcases q8 t cl 0 with ⟨j,hj,h6,h7⟩|⟨j,hj,h6,h7⟩|⟨h6,h7⟩
 ·have e:runM vars cl assume=(t.1,t.2.1,(j:Int)):=by
   have h8:kP cl t=((t.1,t.2.1,((0+j:Nat):Int)),false):=h7
   rw[h5] at h8
   simpa using h8
  rw[e]
  exact⟨h2,h3,hm,.inr ⟨j,hj,rfl,h6⟩⟩
 ·have h8:kP cl t=(_,true):=h7
  rw[h5] at h8
  simp at h8
 ·have e:runM vars cl assume=t:=by
   have h8:kP cl t=(t,false):=h7
   rw[h5] at h8
   simpa using h8
  rw[e]
  exact⟨h2,h3,hm,.inl ⟨h4,h6⟩⟩
theorem E9 {l:List Int} (h:(l.map Int.natAbs).Nodup) {x y:Int} (hx:x∈l) (hy:y∈l) (e:x.natAbs=y.natAbs):x=y:=by
 induction l with
 |nil=>cases hx
 |cons z l ih=>
  rw[bB,cY] at h
  rcases bw.1 hx with rfl|EH<;>rcases bw.1 hy with rfl|XA
  ·rfl
  ·exact absurd (e▸bx.2 ⟨y,XA,rfl⟩) h.1
  ·exact absurd (e▸bx.2 ⟨x,EH,rfl⟩) h.1
  ·exact ih h.2 EH XA
theorem pA.no {vars:Int} {l:List Int} (h:pA vars l) {x:Int} (hx:x∈l):(0 - x)∉l:=by
 intro hy
 have:=E9 h.1 hx hy (by omega)
 have:=(h.2 x hx).1
 omega
end Go.Ab
/- Chapter 20:propagation grows with the formula and the assumptions,in plain terms. -/
namespace Go.Ab
open Go Go.Proofs
set_option maxRecDepth 20000
set_option maxHeartbeats 4000000
theorem xt (tr:List Int):∀(c out:List Int),fP tr c out=none→∃y∈c,y∈tr:=by
 intro c
 induction c with
 |nil=>intro out h;simp [fP] at h
 |cons x c ih=>
  intro out h
  unfold fP at h
  split at h
  ·rename_i hx;exact⟨x,by simp,hx⟩
  ·split at h
   ·obtain⟨y,h1,h2⟩:=ih _ h;exact⟨y,by simp [h1],h2⟩
   ·obtain⟨y,h1,h2⟩:=ih _ h;exact⟨y,by simp [h1],h2⟩
theorem wk (tr:List Int):∀(c out r:List Int),fP tr c out=some r→out.Nodup→r.Nodup:=by
 intro c
 induction c with
 |nil=>intro out r h ho;simp only[fP,Option.some.injEq] at h;exact h▸ho
 |cons x c ih=>
  intro out r h ho
  unfold fP at h
  split at h
  ·cases h
  ·split at h
   ·rename_i h2
    refine ih _ _ h ?_
    rw[cp]
    exact⟨ho,by simp,fun a ha b hb=>by simp at hb;subst hb;rintro rfl;exact h2.2 ha⟩
   ·exact ih _ _ h ho
theorem uc {vars:Int} {d T:List Int} (hT:pA vars T) (h0:∀x∈d,x≠0) (h:(gZ d T).1=0) {x:Int} (hx:∀y∈d,y≠x→(-y)∈T):x∈T:=by
 rw[mx d T h0] at h
 cases ho:fP T d [] with
 |none=>
  obtain⟨y,h1,h2⟩:=xt T d [] ho
  by_cases e:y=x
  ·exact e▸h2
  ·have:=hx y h1 e
   exact absurd (by simpa using this) (hT.no h2)
 |some r=>
  have hm:=oP T d [] r ho (by simp)
  have hn:=wk T d [] r ho (by simp)
  have hr:∀y∈r,y=x:=by
   intro y hy
   have:=hm y hy
   by_cases e:y=x
   ·exact e
   ·exact absurd (hx y (by simpa using this.1) e) this.2.2
  rw[ho] at h
  rcases r with _|⟨a,_|⟨b,r⟩⟩
  ·simp [qA] at h
  ·simp [qA] at h
  ·have e1:=hr a (by simp)
   have e2:=hr b (by simp)
   rw[cY] at hn
   exact absurd (by rw[e1,e2];simp) hn.1
theorem BD {vars:Int} {cl:List (List Int)} {assume:List Int} (hv:0≤vars) (iR:∀c∈cl,eX vars c=true) (hw:eX vars assume=true) (hc:gy assume=false)
  (I:List Int→Prop) (h0:I (il assume).1)
  (hs:∀(t:List Int) (c:List Int) (x:Int),c∈cl→I t→pA vars t→fP t c []=some [x]→x∈c→x∉t→(-x)∉t→I (t++ [x])):I (runM vars cl assume).1:=by
 obtain⟨t,h1,h2,h3,h4,h5⟩:=Ex hv iR hw hc (fun t=>I t.1) h0 (by
  intro t j hj x h1 h2 h3 h4 h5 h6 h7
  exact hs t.1 _ x (cZ hj) h1 h2 h4 h5 h6 h7)
 rcases q8 t cl 0 with ⟨j,hj,h6,h7⟩|⟨j,hj,h6,h7⟩|⟨h6,h7⟩
 ·have h8:kP cl t=((t.1,t.2.1,((0+j:Nat):Int)),false):=h7
  rw[h5] at h8
  rw[(Prod.mk.inj h8).1]
  exact h1
 ·have h8:kP cl t=(_,true):=h7
  rw[h5] at h8
  simp at h8
 ·have h8:kP cl t=(t,false):=h7
  rw[h5] at h8
  rw[(Prod.mk.inj h8).1]
  exact h1
theorem wB {c tr:List Int} (h0:∀x∈c,x≠0) (h:(gZ c tr).1=1):∀y∈c,(-y)∈tr:=by
 rw[mx c tr h0] at h
 cases ho:fP tr c [] with
 |none=>rw[ho] at h;simp [qA] at h
 |some r=>
  rw[ho] at h
  rcases r with _|⟨a,_|⟨b,r⟩⟩
  ·intro y hy
   have:=(oR tr c [] [] ho).2 y hy
   simpa using this.2
  ·simp [qA] at h
  ·simp [qA] at h
end Go.Ab
/- Chapter 20:assignments and what they satisfy. -/
namespace Go.Ab
open Go Go.Proofs
set_option maxRecDepth 20000
set_option maxHeartbeats 4000000
attribute [local irreducible] AW a_ gb fq fz fk fJ
def jH (v:List Bool) (x:Int):Bool:=if 0<x then v.getD (x - 1).toNat false else if x<0 then !(v.getD (0 - x - 1).toNat false) else false
def kL (v:List Bool) (c:List Int):Bool:=c.any (jH v)
theorem B4 {v:List Bool} {x:Int} (h:0<x) (h2:(x - 1).toNat<v.length):jH v x=v[(x - 1).toNat]:=by
 unfold jH;rw[if_pos h,c8,a8 h2];rfl
theorem G2 {v:List Bool} {x:Int} (h:x<0) (h2:(0 - x - 1).toNat<v.length):jH v x=!(v[(0 - x - 1).toNat]):=by
 unfold jH;rw[if_neg aJ,if_pos h,c8,a8 h2];rfl
def allM (v:List Bool) (cl:List (List Int)):Bool:=cl.all (kL v)
def n5 (v:List Bool) (l:List Int):Bool:=l.all (jH v)
end Go.Ab
/- Chapter 20:propagation is sound,in plain terms. -/
namespace Go.Ab
open Go Go.Proofs
set_option maxRecDepth 20000
set_option maxHeartbeats 4000000
theorem mV (v:List Bool) {x:Int} (h:x≠0):jH v (-x)=!(jH v x):=by
 unfold jH
 by_cases h0:0<x
 ·rw[if_neg aJ,if_pos aJ,if_pos h0,show 0 - -x - 1=x - 1 from by omega]
 ·rw[if_pos aJ,if_neg h0,if_pos aJ,show -x - 1=0 - x - 1 from by omega,Bool.not_not]
theorem zW {v:List Bool} {cl:List (List Int)} (h:allM v cl=true) {c:List Int} (hc:c∈cl):∃y∈c,jH v y=true:=by
 unfold allM at h
 have:=bD.1 h c hc
 unfold kL at this
 exact df.1 this
theorem xU {vars:Int} {cl:List (List Int)} {assume:List Int} {v:List Bool} (hv:0≤vars) (iR:∀c∈cl,eX vars c=true) (hw:eX vars assume=true) (hc:gy assume=false)
  (h:allM v cl=true) (he:n5 v assume=true):(runM vars cl assume).2.2= -1∧∀x∈(runM vars cl assume).1,jH v x=true:=by
 have hz:∀c∈cl,∀x∈c,x≠0:=fun c hc x hx=>(fE (iR c hc) x hx).1
 have h1:∀x∈(runM vars cl assume).1,jH v x=true:=by
  refine BD hv iR hw hc (fun t=>∀x∈t,jH v x=true) (fun x hx=>?_) ?_
  ·exact bD.1 he x ((oF assume x).1 hx)
  ·intro t c x Am hI _ wy Wi _ _
   intro y hy
   rcases bX.1 hy with hy|hy
   ·exact hI y hy
   ·simp at hy
    subst hy
    obtain⟨z,Ae,GM⟩:=zW h Am
    rcases((oR t c [] [y] wy).2 z Ae).2 with h3|h3
    ·have:=hI _ h3
     rw[mV v (hz c Am z Ae),GM] at this
     simp at this
    ·simp at h3;exact h3▸GM
 refine⟨?_,h1⟩
 have wj:=Ad hv iR hw hc
 rcases wj.fin with ⟨h2,_⟩|⟨j,hj,_,h2⟩
 ·exact h2
 ·obtain⟨z,Ae,GM⟩:=zW h (cZ hj)
  have h3:=h1 _ (wB (hz _ (cZ hj)) h2 z Ae)
  rw[mV v (hz _ (cZ hj) z Ae),GM] at h3
  simp at h3
theorem tT {v:List Bool} {l:List Int} (h0:∀x∈l,x≠0) (h:gy l=true):n5 v l=false:=by
 unfold gy at h
 rw[df] at h
 obtain⟨x,hx,td⟩:=h
 have Zg:(0 - x)∈l:=by simpa using td
 cases he:n5 v l with
 |false=>rfl
 |true=>
  have h1:=bD.1 he x hx
  have h2:=bD.1 he _ Zg
  rw[dh,mV v (h0 x hx),h1] at h2
  simp at h2
theorem Fq {vars:Int} {cl:List (List Int)} {assume c:List Int} {v:List Bool} (hv:0≤vars) (iR:∀c∈cl,eX vars c=true) (hw:eX vars assume=true) (XE:eX vars c=true) (h:allM v cl=true):
  (gR vars cl c=true→kL v c=true)∧(n5 v assume=true→(vY vars cl assume).2= -1∧n5 v (vY vars cl assume).1=true):=by
 constructor
 ·intro hi
  cases ht:kL v c with
  |true=>rfl
  |false=>
   have Am:∀x∈c,x≠0:=fun x hx=>(fE XE x hx).1
   have Pe:eX vars (c.map fun x=>0 - x)=true:=by
    unfold eX
    rw[bD]
    intro y hy
    obtain⟨x,hx,rfl⟩:=bx.1 hy
    have:=fE XE x hx
    simp;omega
   have he:n5 v (c.map fun x=>0 - x)=true:=by
    unfold n5
    rw[bD]
    intro y hy
    obtain⟨x,hx,rfl⟩:=bx.1 hy
    unfold kL at ht
    have:=List.any_eq_false.1 ht x hx
    rw[dh,mV v (Am x hx)]
    simpa using this
   cases qZ:gy (c.map fun x=>0 - x) with
   |true=>
    have:=tT (v:=v) (fun y hy=>(fE Pe y hy).1) qZ
    rw[he] at this;cases this
   |false=>
    have:=(xU hv iR Pe qZ h he).1
    rw[gR,if_neg (by rw[qZ];simp),this] at hi
    simp at hi
 ·intro he
  cases qZ:gy assume with
  |true=>
   have:=tT (v:=v) (fun y hy=>(fE hw y hy).1) qZ
   rw[he] at this;cases this
  |false=>
   have h1:=xU hv iR hw qZ h he
   have wj:=Ad hv iR hw qZ
   rw[vY,if_neg (by rw[qZ];simp)]
   refine⟨h1.1,?_⟩
   unfold n5
   rw[bD]
   exact fun x hx=>h1.2 x ((wj.mem x).2 (bX.2 (.inr hx)))
end Go.Ab
/- The laws through the layers:small formulas. -/
namespace Go.Ab
open Go Go.Proofs
open Nat (reduceAdd reduceSub)
set_option maxRecDepth 20000
set_option maxHeartbeats 8000000
attribute [local irreducible] AW a_ gb fq AR fz fk fJ fX canon iV j3 nP pf mr iM gR jg hO
theorem AD (vars:Int) (l:List Int) (hv: -1000000≤vars∧vars≤1000000):Fn Tryz.prog 12 [eV vars,.pv (ints l)] (fh (eX vars l)):=by
 refine Fn.enter (n:=34) Tryz.func12 rfl rfl rfl rfl rfl (by decide) fun g fD fB=>?_;(try refine nz ?_)
 refine AW.jE 1 rfl fun hlen=>?_
 (refine zq ?_;refine tg ?_;refine Aa ?_)
 (refine nz ?_;apply AW.gN [0,1] [] (fun k:Nat=>([(5,eV k)]:List (Nat×AV))) (fun k:Nat=>([]:List (Nat×Option Ob))) (fun k:Nat=>k≤l.length∧eX vars (l.take k)=true) (fun k:Nat=>l.length - k) (0);(conv=>lhs;simp only[Nf.nN,Nf.all,di,reduceAdd,reduceSub]);(all_goals skip))
 ·exact⟨bm _,rfl⟩
 ·exact fp rfl (by(refine aC ?_;(iterate 2 refine aC ?_);exact trivial)) (by(exact trivial)) rfl
 rintro k ⟨hk,kY⟩
 by_cases fm:k<l.length
 ·have hs:=uh (vars:=vars) fm
  rw[kY,c6] at hs
  by_cases hb:l[k]≠0∧l[k]≤vars∧0 - vars≤l[k]
  ·obtain⟨b1,b2,b3⟩:=hb
   rw[decide_eq_true ⟨b1,b2,b3⟩] at hs
   have b4:¬l[k]<0 - vars:=by omega
   have b5:¬vars<l[k]:=by omega
   (refine LD ?_;refine aA ?_;refine NK ?_;refine aA ?_;refine zy ?_;refine zr ?_;refine zy ?_;refine zm ?_;refine Cc ?_;(iterate 3 refine lg ?_);refine aA ?_;refine zy ?_;refine zr ?_;refine zy ?_;refine lg ?_;refine a_.sub rfl rfl rfl rfl rfl aJ ?_;refine zy ?_;refine zs ?_;refine zF ?_;refine zd ?_;refine zk ?_;refine K1 ?_)
   exact⟨k+1,⟨by omega,hs⟩,by omega,fp rfl (by(refine aC ?_;(iterate 2 refine aC ?_);exact trivial)) (by(exact trivial)) rfl⟩
  ·have hf:=v7 fm hb
   rw[hf]
   by_cases b1:l[k]=0
   ·(refine LD ?_;refine aA ?_;refine zr ?_;refine a_.eql rfl rfl rfl rfl rfl ?_;refine zm ?_;(iterate 6 refine a_.jV rfl rfl rfl rfl rfl rfl (by with_reducible assumption) ?_);refine zT ?_;refine zm ?_;(iterate 7 refine a_.gg rfl rfl rfl rfl rfl rfl rfl ?_);refine AK ?_;refine lf ?_;refine wu ?_)
    all_goals (apply e6;(exact gk.one (.tmp rfl rfl));(refine Le.fh ?_;(first|rfl)))
   ·by_cases b2:vars<l[k]
    ·(refine LD ?_;refine aA ?_;refine NK ?_;refine aA ?_;refine zy ?_;refine zr ?_;refine zy ?_;refine zm ?_;refine Cc ?_;refine NU ?_;refine zT ?_;refine th ?_;refine lf ?_;refine wu ?_)
     all_goals (apply e6;(exact gk.one (.tmp rfl rfl));(refine Le.fh ?_;(first|rfl)))
    ·have b3:l[k]<0 - vars:=by omega
     (refine LD ?_;refine aA ?_;refine NK ?_;refine aA ?_;refine zy ?_;refine zr ?_;refine zy ?_;refine zm ?_;refine Cc ?_;(iterate 3 refine lg ?_);refine aA ?_;refine zy ?_;refine zr ?_;refine zy ?_;refine lg ?_;refine a_.sub rfl rfl rfl rfl rfl aJ ?_;refine zy ?_;refine zs ?_;refine zF ?_;refine na ?_;refine lf ?_;refine wu ?_)
     all_goals (apply e6;(exact gk.one (.tmp rfl rfl));(refine Le.fh ?_;(first|rfl)))
 ·rw[gC (l:=l) aJ] at kY
  rw[kY]
  (refine yP ?_;(iterate 2 refine zm ?_);refine JM ?_;refine lf ?_)
  (apply e6;(exact gk.one (.tmp rfl rfl));(refine Le.fh ?_;(rfl)))
theorem wx (vars:Int) (cl:List (List Int)):Fn Tryz.prog 8 [F7 vars cl] (fh (l8 vars cl)):=by
 by_cases h0:0≤vars∧vars≤20000∧(cl.length:Int)≤60000
 ·obtain⟨h1,h2,h3⟩:=h0
  have g1:¬vars<0:=by omega
  have g2:¬20000<vars:=by omega
  have g3:¬60000<(cl.length:Int):=by omega
  have e:l8 vars cl=cl.all (eX vars):=by unfold l8;rw[decide_eq_true ⟨h1,h2,h3⟩,c6]
  rw[e]
  refine Fn.enter (n:=36) Tryz.func8 rfl rfl rfl rfl rfl (by decide) fun g fD fB=>?_;(try refine nz ?_)
  (refine v8 ?_;refine xB ?_;refine zs ?_;refine L2 ?_;refine zb ?_;refine Cc ?_;refine lg ?_;refine Fo ?_;refine Cc ?_;refine ph ?_;refine qw ?_;refine Aa ?_)
  (refine nz ?_;apply AW.gN [1] [0] (fun k:Nat=>([(3,eV k)]:List (Nat×AV))) (fun k:Nat=>([]:List (Nat×Option Ob))) (fun k:Nat=>k≤cl.length∧(cl.take k).all (eX vars)=true) (fun k:Nat=>cl.length - k) (0);(conv=>lhs;simp only[Nf.nN,Nf.all,di,reduceAdd,reduceSub]);(all_goals skip))
  ·exact⟨bm _,rfl⟩
  ·exact Qn
  rintro k ⟨hk,BY⟩
  by_cases fm:k<cl.length
  ·have has:=vC (p:=eX vars) fm
   rw[BY,c6] at has
   have hw:=AD vars cl[k] (by omega)
   cases hc:eX vars cl[k] with
   |true=>
    rw[hc] at has hw
    (refine nf ?_;refine vB ?_;refine BV ?_;refine zo ?_;(with_reducible apply AW.fY);exact rfl;exact rfl;kernel_rfl;(with_reducible assumption);refine xB ?_;refine vB ?_;refine zm ?_;refine aA ?_;refine zr ?_;refine zA (hw) ?_;refine pB ?_;refine zm ?_;refine a_.not rfl rfl rfl ?_;refine rK ?_;refine nz ?_;refine zm ?_;refine zj ?_;refine kM ?_)
    exact⟨k+1,⟨by omega,has⟩,by omega,fp rfl (by(refine aC ?_;refine aC ?_;exact trivial)) (by(refine⟨.box _ rfl ?_,?_⟩;(iterate 2 refine aC ?_);(iterate 2 exact trivial))) rfl⟩
   |false=>
    rw[hc] at hw
    rw[Co (p:=eX vars) fm hc]
    (refine nf ?_;refine vB ?_;refine BV ?_;refine zo ?_;(with_reducible apply AW.fY);exact rfl;exact rfl;kernel_rfl;(with_reducible assumption);refine xB ?_;refine vB ?_;refine zm ?_;refine aA ?_;refine zr ?_;refine zA (hw) ?_;refine pB ?_;refine zm ?_;refine a_.not rfl rfl rfl ?_;refine th ?_;refine lf ?_;refine wu ?_)
    (apply e6;(exact gk.one (.tmp rfl rfl));(refine Le.fh ?_;(rfl)))
  ·rw[gC (l:=cl) aJ] at BY
   rw[BY]
   (refine nf ?_;refine vB ?_;refine JM ?_;refine lf ?_)
   (apply e6;(exact gk.one (.tmp rfl rfl));(refine Le.fh ?_;(rfl)))
 ·have e:=DH (vars:=vars) (cl:=cl) h0
  rw[e]
  by_cases h1:vars<0
  ·refine Fn.enter (n:=36) Tryz.func8 rfl rfl rfl rfl rfl (by decide) fun g fD fB=>?_;(try refine nz ?_)
   refine AW.u6 0 1 rfl rfl fun hlen=>?_
   (refine v8 ?_;refine xB ?_;refine zs ?_;refine Qe ?_;refine wL ?_)
   (apply e6;(exact gk.one (.tmp rfl rfl));(refine Le.fh ?_;(rfl)))
  ·by_cases h2:20000<vars
   ·refine Fn.enter (n:=36) Tryz.func8 rfl rfl rfl rfl rfl (by decide) fun g fD fB=>?_;(try refine nz ?_)
    refine AW.u6 0 1 rfl rfl fun hlen=>?_
    (refine v8 ?_;refine xB ?_;refine zs ?_;refine L2 ?_;refine zb ?_;refine Cc ?_;refine zm ?_;refine LQ ?_;refine wL ?_)
    (apply e6;(exact gk.one (.tmp rfl rfl));(refine Le.fh ?_;(rfl)))
   ·have h3:60000<(cl.length:Int):=by omega
    refine Fn.enter (n:=36) Tryz.func8 rfl rfl rfl rfl rfl (by decide) fun g fD fB=>?_;(try refine nz ?_)
    refine AW.u6 0 1 rfl rfl fun hlen=>?_
    (refine v8 ?_;refine xB ?_;refine zs ?_;refine L2 ?_;refine zb ?_;refine Cc ?_;refine lg ?_;refine Fo ?_;refine Cc ?_;refine na ?_;refine lf ?_;refine gH ?_)
    (apply e6;(exact gk.one (.tmp rfl rfl));(refine Le.fh ?_;(rfl)))
def ma (v:Int) (cl:List (List Int)):Bool:=decide (v≤8) && decide (cl.length≤40) && cl.all (fun c=>decide (c.length≤12)) && l8 v cl
theorem GC (v:Int) (cl:List (List Int)):Fn Tryz.prog 6 [F7 v cl] (fh (ma v cl)):=by
 have Ra:=wx v cl
 by_cases h1:v≤8
 ·by_cases h2:cl.length≤40
  ·have e1:ma v cl=(cl.all (fun c=>decide (c.length≤12)) && l8 v cl):=by unfold ma;rw[decide_eq_true h1,decide_eq_true h2];rfl
   rw[e1]
   refine Fn.enter (n:=29) Tryz.func6 rfl rfl rfl rfl rfl (by decide) fun g fD fB=>?_;(try refine nz ?_)
   (refine v8 ?_;refine xB ?_;refine a_.gtr rfl rfl rfl rfl rfl ?_;refine lg ?_;refine Fo ?_;refine Cc ?_;refine ph ?_;refine qw ?_;refine Aa ?_)
   (refine nz ?_;apply AW.gN [1] [0] (fun i:Nat=>([(3,eV i)]:List (Nat×AV))) (fun i:Nat=>([]:List (Nat×Option Ob))) (fun i:Nat=>i≤cl.length∧(cl.take i).all (fun c=>decide (c.length≤12))=true) (fun i:Nat=>cl.length - i) (0);(conv=>lhs;simp only[Nf.nN,Nf.all,di,reduceAdd,reduceSub]);(all_goals skip))
   ·exact⟨bm _,rfl⟩
   ·exact Qn
   rintro i ⟨hi,BY⟩
   by_cases fm:i<cl.length
   ·have has:=vC (p:=fun c:List Int=>decide (c.length≤12)) fm
    rw[BY,c6] at has
    by_cases hc:cl[i].length≤12
    ·rw[decide_eq_true hc] at has
     (refine nf ?_;refine vB ?_;refine BV ?_;refine ly ?_;refine vB ?_;refine zm ?_;refine aA ?_;refine zr ?_;refine zn ?_;refine a_.gtr rfl rfl rfl rfl rfl ?_;refine zd ?_;refine zk ?_;refine K1 ?_)
     exact⟨i+1,⟨by omega,has⟩,by omega,fp rfl (by(refine aC ?_;refine aC ?_;exact trivial)) (by(refine⟨.box _ rfl ?_,?_⟩;(iterate 2 refine aC ?_);(iterate 2 exact trivial))) rfl⟩
    ·rw[Co (p:=fun c:List Int=>decide (c.length≤12)) fm (decide_eq_false hc),c7]
     (refine nf ?_;refine vB ?_;refine BV ?_;refine ly ?_;refine vB ?_;refine zm ?_;refine aA ?_;refine zr ?_;refine zn ?_;refine a_.gtr rfl rfl rfl rfl rfl ?_;refine na ?_;refine lf ?_;refine wu ?_)
     (apply e6;(exact gk.one (.tmp rfl rfl));(refine Le.fh ?_;(rfl)))
   ·rw[gC (l:=cl) aJ] at BY
    rw[BY,c6]
    (refine nf ?_;refine vB ?_;refine JM ?_;refine ly ?_;refine rq ?_;refine zA (Ra) ?_;refine kQ ?_)
    (apply e6;(exact gk.one (.tmp rfl rfl));(refine Le.fh ?_;(rfl)))
  ·have e1:ma v cl=false:=by unfold ma;rw[decide_eq_false h2];simp
   rw[e1]
   refine Fn.enter (n:=29) Tryz.func6 rfl rfl rfl rfl rfl (by decide) fun g fD fB=>?_;(try refine nz ?_)
   refine AW.u6 0 1 rfl rfl fun hlen=>?_
   (refine v8 ?_;refine xB ?_;refine a_.gtr rfl rfl rfl rfl rfl ?_;refine lg ?_;refine Fo ?_;refine Cc ?_;refine na ?_;refine lf ?_;refine gH ?_)
   (apply e6;(exact gk.one (.tmp rfl rfl));(refine Le.fh ?_;(rfl)))
 ·have e1:ma v cl=false:=by unfold ma;rw[decide_eq_false h1];simp
  rw[e1]
  refine Fn.enter (n:=29) Tryz.func6 rfl rfl rfl rfl rfl (by decide) fun g fD fB=>?_;(try refine nz ?_)
  (refine v8 ?_;refine xB ?_;refine a_.gtr rfl rfl rfl rfl rfl ?_;refine zm ?_;(iterate 4 refine a_.jV rfl rfl rfl rfl rfl rfl (by first|omega|decide) ?_);refine zT ?_;refine wL ?_)
  (apply e6;(exact gk.one (.tmp rfl rfl));(refine Le.fh ?_;(rfl)))
theorem yC {v:Int} {cl:List (List Int)} (h:ma v cl=true):(0≤v∧v≤8)∧cl.length≤40∧∀c∈cl,eX v c=true∧c.length≤12:=by
 unfold ma l8 at h
 simp only[aZ,decide_eq_true_eq,bD] at h
 obtain⟨⟨⟨a1,a2⟩,a3⟩,a4,a5⟩:=h
 exact⟨⟨a4.1,a1⟩,a2,fun c hc=>⟨a5 c hc,a3 c hc⟩⟩
end Go.Ab
/- A justified proof is sound,in plain terms. -/
namespace Go.Ab
open Go Go.Proofs
set_option maxRecDepth 20000
set_option maxHeartbeats 4000000
theorem ya {e:py} {s s':nM} {t:gB} {l:List gB} (h:hO e s t=some s'):jg e s (t::l)=((jg e s' l).1,(jg e s' l).2+1):=by rw[jg,h]
theorem yq {a b:List Int}:canon a=canon b↔∀x,x∈a↔x∈b:=⟨fun h x=>by rw[← p7 (zs:=a),h,p7],fun h=>A1 h⟩
theorem sk {v w:List Bool} {x:Int} (h:x≤v.length∧0 - (v.length:Int)≤x):jH (v++w) x=jH v x:=by
 unfold jH
 by_cases h1:0<x
 ·rw[if_pos h1,if_pos h1,c8,c8,aT aJ]
 ·rw[if_neg h1,if_neg h1]
  by_cases h2:x<0
  ·rw[if_pos h2,if_pos h2,c8,c8,aT aJ]
  ·rw[if_neg h2,if_neg h2]
theorem x9 {v w:List Bool} {c:List Int} (h:eX v.length c=true):kL (v++w) c=kL v c:=by
 have hb:=fE h
 unfold kL
 rw[Bool.eq_iff_iff,df,df]
 exact⟨fun⟨x,hx,g⟩=>⟨x,hx,by rwa [sk (by have:=hb x hx;omega)] at g⟩,fun⟨x,hx,g⟩=>⟨x,hx,by rwa [sk (by have:=hb x hx;omega)]⟩⟩
theorem Hx {v:List Bool} {b:Bool}:jH (v++ [b]) ((v.length:Int)+1)=b:=by
 have e:((v.length:Int)+1 - 1).toNat=v.length:=by omega
 rw[B4 aJ (by rw[e];simp)]
 simp only[e]
 simp
def I9 (v:List Bool) (c:List Int):Bool:=(c.drop 1).all (jH v)
def pQ:List Bool→List gB→List Bool
 |v,[]=>v
 |v,t::l=>pQ (if t.kind=3 then v++ [I9 v t.lits] else v) l
def BT:List Bool→List gB→Bool
 |_,[]=>true
 |v,t::l=>if t.kind=3 then BT (v++ [I9 v t.lits]) l else if t.kind=1∨t.kind=4 then kL v t.lits && BT v l else BT v l
theorem LK {n:Int} {cl:List (List Int)} {sy:List Int} {v:List Bool} (iR:∀c∈cl,eX n c=true) (hs:iM n cl sy=true) (hv:allM v cl=true):((sy.map (jH v)).length:Int)=n∧allM (sy.map (jH v)) cl=true∧∀x:Int,x≠0→x≤n→0 - n≤x→jH (sy.map (jH v)) x=jH v (rQ sy x):=by
 obtain⟨y1,y2⟩:=nu hs
 have hz:=fE y2
 have key:∀x:Int,x≠0→x≤n→0 - n≤x→jH (sy.map (jH v)) x=jH v (rQ sy x):=by
  intro x h0 h1 h2
  by_cases hp:0<x
  ·have hl:(x - 1).toNat<sy.length:=by omega
   rw[B4 hp (by simpa using hl)]
   unfold rQ
   rw[if_pos hp,c8,a8 hl]
   simp
  ·have hl:(0 - x - 1).toNat<sy.length:=by omega
   have e:(-x - 1).toNat=(0 - x - 1).toNat:=by omega
   rw[G2 aJ (by simpa using hl)]
   have e2:sy.getD (-x - 1).toNat 0=sy[(0 - x - 1).toNat]:=by rw[e,c8,a8 hl];rfl
   unfold rQ
   rw[if_neg hp,e2,mV v (hz _ (cZ hl)).1]
   simp only[dj]
 refine⟨by rw[List.length_map];exact y1,?_,key⟩
 unfold allM
 rw[bD]
 intro c hc
 have Yn:cl.all (CU cl sy)=true:=by
  unfold iM at hs
  simp only[aZ] at hs
  exact hs.2
 obtain⟨d,hd,uC⟩:=df.1 (bD.1 Yn c hc)
 rw[decide_eq_true_eq,yq] at uC
 obtain⟨y,hy,ZL⟩:=zW hv hd
 have F3:=(uC y).1 hy
 unfold mr at F3
 obtain⟨x,hx,rfl⟩:=bx.1 F3
 have Lp:=fE (iR c hc) x hx
 unfold kL
 rw[df]
 exact⟨x,hx,by rw[key x Lp.1 Lp.2.1 aJ];exact ZL⟩
structure qY (e:py) (s:nM) (K:List gB):Prop where
 len:∀v:List Bool,(v.length:Int)=e.v0→allM v e.cl0=true→((pQ v K).length:Int)=s.vars
 all:∀v:List Bool,(v.length:Int)=e.v0→allM v e.cl0=true→allM (pQ v K) s.cl=true
 pre:∀v:List Bool,(v.length:Int)=e.v0→allM v e.cl0=true→∃w,pQ v K=v++w
 xF:s.ref=true→∀v:List Bool,(v.length:Int)=e.v0→allM v e.cl0=true→False
theorem jZ:∀(K:List gB) (v:List Bool) (t:gB),pQ v (K++ [t])=if t.kind=3 then pQ v K++ [I9 (pQ v K) t.lits] else pQ v K
 |[],v,t=>rfl
 |u::K,v,t=>by
  rw[List.cons_append,pQ,pQ,jZ K]
theorem Fy {v:List Bool} {cl:List (List Int)} {c:List Int} (h:allM v cl=true) (hc:kL v c=true):allM v (cl++ [c])=true:=by
 unfold allM at h ⊢
 rw[List.all_append,h];simp [hc]
theorem qY.rI {e:py} {s:nM} {K:List gB} {t:gB} (h:qY e s K) (h3:t.kind≠3) (hT:∀v:List Bool,(v.length:Int)=e.v0→allM v e.cl0=true→kL (pQ v K) t.lits=true):qY e (vV s t.lits) (K++ [t]) where
 len:=fun v h1 h2=>by rw[jZ,if_neg h3];exact h.len v h1 h2
 all:=fun v h1 h2=>by rw[jZ,if_neg h3];exact Fy (h.all v h1 h2) (hT v h1 h2)
 pre:=fun v h1 h2=>by rw[jZ,if_neg h3];exact h.pre v h1 h2
 xF:=fun hr v h1 h2=>by
  have wX:(s.ref||decide ((t.lits.length:Int)=0))=true:=hr
  rw[Bool.or_eq_true,decide_eq_true_eq] at wX
  rcases wX with wX|wX
  ·exact h.xF wX v h1 h2
  ·have:=hT v h1 h2
   have h0:t.lits=[]:=List.eq_nil_of_length_eq_zero (by omega)
   rw[h0] at this
   simp [kL] at this
theorem CM {e:py} {B:Nat} {s u:nM} {K:List gB} {t:gB} (Hz:∀c∈e.cl0,eX e.v0 c=true) (H6:0≤e.v0) (h:qY e s K) (xj:mR B s) (hs:hO e s t=some u):
  qY e u (K++ [t])∧∀v:List Bool,(v.length:Int)=e.v0→allM v e.cl0=true→(t.kind=1∨t.kind=4)→kL (pQ v K) t.lits=true:=by
 by_cases k1:t.kind=1
 ·rw[zH k1,mT] at hs
  split at hs
  ·rename_i c
   cases hs
   have hT:∀v:List Bool,(v.length:Int)=e.v0→allM v e.cl0=true→kL (pQ v K) t.lits=true:=fun v h1 h2=>
    (Fq (assume:=[]) xj.hv.1 (fun c hc=>(xj.iR c hc).1) rfl c.2.1 (h.all v h1 h2)).1 c.2.2
   exact⟨h.rI aJ hT,fun v h1 h2 _=>hT v h1 h2⟩
  ·cases hs
 by_cases k2:t.kind=2
 ·rw[EL k2,lH] at hs
  split at hs
  ·cases hs
   have h3:¬t.kind=3:=by omega
   refine⟨⟨fun v h1 h2=>by rw[jZ,if_neg h3];exact h.len v h1 h2,fun v h1 h2=>?_,fun v h1 h2=>by rw[jZ,if_neg h3];exact h.pre v h1 h2,h.xF⟩,fun v _ _ hk=>by omega⟩
   rw[jZ,if_neg h3]
   have:=h.all v h1 h2
   unfold allM at this ⊢
   rw[bD] at this ⊢
   exact fun c hc=>this c (List.mem_of_mem_eraseIdx hc)
  ·cases hs
 by_cases k3:t.kind=3
 ·rw[D8 k3,ku] at hs
  split at hs
  ·rename_i c
   obtain⟨_,c2,c3,_,c5⟩:=c
   cases hs
   have hd:∀v:List Bool,(v.length:Int)=e.v0→allM v e.cl0=true→((pQ v K).length:Int)=s.vars:=h.len
   refine⟨⟨fun v h1 h2=>?_,fun v h1 h2=>?_,fun v h1 h2=>?_,h.xF⟩,fun v _ _ hk=>by omega⟩
   ·rw[jZ,if_pos k3,bW]
    have:=h.len v h1 h2
    show _=s.vars+1
    simp;omega
   ·rw[jZ,if_pos k3]
    have hl:=h.len v h1 h2
    have ha:=h.all v h1 h2
    generalize pQ v K=w at hl ha
    generalize t.lits.getD 0 0=g at c3
    have hg:g=(w.length:Int)+1:=by omega
    have hb:=fE c5
    unfold I9
    generalize t.lits.drop 1=r at c5 hb
    show allM _ (s.cl++defs g r)=true
    unfold allM at ha ⊢
    rw[bD] at ha ⊢
    intro c hc
    rcases bX.1 hc with hc|hc
    ·rw[x9 (by rw[hl];exact(xj.iR c hc).1)]
     exact ha c hc
    ·have Ts:∀x∈r,jH (w++ [r.all (jH w)]) x=jH w x:=fun x hx=>sk (by have:=hb x hx;omega)
     have Bj:jH (w++ [r.all (jH w)]) g=r.all (jH w):=by rw[hg];exact Hx
     have VK:jH (w++ [r.all (jH w)]) (-g)=!(r.all (jH w)):=by rw[mV _ aJ,Bj]
     unfold kL
     rw[df]
     unfold defs at hc
     cases hr:r.all (jH w) with
     |true=>
      rw[hr] at Ts Bj VK
      rcases bX.1 hc with hc|hc
      ·obtain⟨x,hx,rfl⟩:=bx.1 hc
       exact⟨x,by simp,by rw[Ts x hx];exact bD.1 hr x hx⟩
      ·simp only[cq] at hc
       subst hc
       exact⟨g,by simp,Bj⟩
     |false=>
      rw[hr] at Ts Bj VK
      rcases bX.1 hc with hc|hc
      ·obtain⟨x,hx,rfl⟩:=bx.1 hc
       exact⟨-g,by simp,VK⟩
      ·simp only[cq] at hc
       subst hc
       obtain⟨x,hx,ZC⟩:=List.all_eq_false.1 hr
       refine⟨-x,by simp only[bw,bx];exact .inr ⟨x,hx,rfl⟩,?_⟩
       rw[mV _ (hb x hx).1,Ts x hx]
       simpa using ZC
   ·obtain⟨w,hw⟩:=h.pre v h1 h2
    rw[jZ,if_pos k3,hw]
    exact⟨w++ [I9 (v++w) t.lits],by rw[List.append_assoc]⟩
  ·cases hs
 by_cases k4:t.kind=4
 ·rw[En k4,oT] at hs
  split at hs
  ·rename_i c
   obtain⟨c1,_,c3,c4⟩:=c
   cases hs
   generalize e.syms.getD t.sym.toNat []=sy at c3 c4
   obtain⟨d,hd,Ms⟩:=df.1 c4
   unfold lD at Ms
   rw[aZ,decide_eq_true_eq,yq] at Ms
   obtain⟨W7,Ms⟩:=Ms
   have hT:∀v:List Bool,(v.length:Int)=e.v0→allM v e.cl0=true→kL (pQ v K) t.lits=true:=fun v h1 h2=>by
    obtain⟨g1,g2,g3⟩:=LK Hz c3 h2
    have Z4:=h.all _ g1 g2
    obtain⟨w,hw⟩:=h.pre _ g1 g2
    obtain⟨w',iP⟩:=h.pre v h1 h2
    have ht:=bD.1 Z4 d hd
    rw[hw,x9 (by rw[g1];exact W7)] at ht
    obtain⟨x,hx,Xm⟩:=df.1 ht
    have Lp:=fE W7 x hx
    rw[g3 x Lp.1 Lp.2.1 aJ] at Xm
    have wQ:rQ sy x∈t.lits:=(Ms _).1 (by unfold mr;exact bx.2 ⟨x,hx,rfl⟩)
    have Nd:=fE (nu c3).2
    have wY:=(nu c3).1
    have GK:rQ sy x≤v.length∧0 - (v.length:Int)≤rQ sy x:=by
     unfold rQ
     split
     ·have hl:(x - 1).toNat<sy.length:=by omega
      rw[c8,a8 hl]
      have:=Nd _ (cZ hl)
      simp only[bn]
      omega
     ·have hl:(-x - 1).toNat<sy.length:=by omega
      rw[c8,a8 hl]
      have:=Nd _ (cZ hl)
      simp only[bn]
      omega
    unfold kL
    rw[df]
    exact⟨_,wQ,by rw[iP,sk GK];exact Xm⟩
   exact⟨h.rI aJ hT,fun v h1 h2 _=>hT v h1 h2⟩
  ·cases hs
 rw[Er k1 k2 k3 k4] at hs
 cases hs
theorem x8 {e:py} (Hz:∀c∈e.cl0,eX e.v0 c=true) (H6:0≤e.v0):∀(L:List gB) {B:Nat} {s:nM} {K:List gB},qY e s K→mR B s→(∀t∈L,t.lits.length≤900)→(jg e s L).2=L.length→
  (∀v:List Bool,(v.length:Int)=e.v0→allM v e.cl0=true→BT (pQ v K) L=true)∧((jg e s L).1.ref=true→∀v:List Bool,(v.length:Int)=e.v0→allM v e.cl0=true→False)
 |[],_,s,K,h,_,_,_=>by rw[vm];exact⟨fun _ _ _=>rfl,h.xF⟩
 |t::L,B,s,K,h,xj,hl,hn=>by
  cases hs:hO e s t with
  |none=>rw[jg,hs] at hn;simp at hn
  |some u=>
   rw[ya hs] at hn ⊢
   obtain⟨hu,hT⟩:=CM Hz H6 h xj hs
   obtain⟨i1,i2⟩:=x8 (e:=e) Hz H6 L hu (xj.step (hl t (by simp)) hs) (fun t ht=>hl t (by simp [ht])) (by simp at hn;exact hn)
   refine⟨fun v h1 h2=>?_,i2⟩
   have h5:=i1 v h1 h2
   rw[jZ] at h5
   unfold BT
   by_cases k3:t.kind=3
   ·rw[if_pos k3] at h5 ⊢
    exact h5
   ·rw[if_neg k3] at h5 ⊢
    split
    ·rename_i hk
     rw[hT v h1 h2 hk,h5];rfl
    ·exact h5
end Go.Ab
/- The solver:its state;values,pushes,decisions,walked. -/
namespace Go.Ab
open Go Go.Proofs
open Nat (reduceAdd reduceSub)
set_option maxRecDepth 20000
set_option maxHeartbeats 4000000
structure SR where
 value:List Int
 level:List Int
 reason:List Int
 marks:List Int
 low:Int
 head:Int
 added:Int
 broken:Bool
 hl:Nat→Value
 ll:Nat→List Int
 nc:Nat
 hc:Nat→Value
 cl:Nat→List Int
 nw:Nat
 hw:Nat→Value
 wl:Nat→List Int
 proof:List (List Int)
 model:List Int
 core:List Int
abbrev o_ (l:List Int):List PV:=[.lit (.int .i64 1),.slice 1 (l.map encI),.lit (.int .i64 0)]
abbrev jI (l:List Int):PV:=.slice 1 (l.map encI)
abbrev gW (s:SR):List AV:=[.own 1 3 1 (s.value.map encI),.own 2 3 1 (s.level.map encI),.own 3 3 1 (s.reason.map encI),.pv (.lit (s.hl 0)),.own 5 3 1 (s.marks.map encI),eV s.low,.own 6 29 1 (gx s.nc s.hc),.own 8 29 1 (gx s.nw s.hw),eV s.head,eV s.added,fh s.broken,.own 10 65 3 (s.proof.map o_),eV 0,.pv (jI s.model),.pv (jI s.core)]
abbrev gV (s:SR):List (Nat×Option Ob):=[(0,some (.box (gW s))),(1,some .row),(2,some .row),(3,some .row),(4,some (.e8 3 (j9 s.hl s.ll))),(5,some .row),(6,some .row),(7,some (.e8 3 (j9 s.hc s.cl))),(8,some .row),(9,some (.e8 3 (j9 s.hw s.wl))),(10,some .row)]
def Tg (v:List Int) (x:Int):Int:=if x<0 then -(v.getD (-x).toNat 0) else v.getD x.toNat 0
def eQ (x:Int):Int:=if x<0 then -2*x+1 else 2*x
attribute [local irreducible] gx AW a_ gb fq AR fz fk fJ fX kp lh
theorem vc (x:Int) (hb: -1000000≤x∧x≤1000000):Fn Tryz.prog 81 [eV x] (eV (eQ x)):=by
 unfold eQ
 by_cases h:x<0
 ·rw[if_pos h]
  refine Fn.enter (n:=10) Tryz.func81 rfl rfl rfl rfl rfl (by decide) fun g fD fB=>?_;refine aB ?_
  (refine y_ ?_;refine zs ?_;refine na ?_;refine ka ?_;refine a_.mul rfl rfl rfl rfl rfl aJ ?_;refine zj ?_;refine xv ?_)
  (apply e6;(exact gk.one (.tmp rfl rfl));(refine Le.eV ?_;(rfl)))
 ·rw[if_neg h]
  refine Fn.enter (n:=10) Tryz.func81 rfl rfl rfl rfl rfl (by decide) fun g fD fB=>?_;refine aB ?_
  (refine y_ ?_;refine zs ?_;refine ph ?_;refine ka ?_;refine a_.mul rfl rfl rfl rfl rfl aJ ?_;refine kQ ?_)
  (apply e6;(exact gk.one (.tmp rfl rfl));(refine Le.eV ?_;(rfl)))
theorem fy {l:List Int} {n:Nat} (h:n<l.length):l.getD n 0=l[n]:=by simp [c8,h]
theorem M8 (s:SR) (x:Int) (hb: -1000000≤x∧x≤1000000) (hx:x<s.value.length∧ -x<s.value.length) (hv:∀y∈s.value,-1≤y∧y≤1):og Tryz.prog 48 11 (gV s) [.ptr 0 0,eV x] (gV s) (eV (Tg s.value x)):=by
 unfold Tg
 by_cases h:x<0
 ·have fm:(-x).toNat<s.value.length:=by omega
  have hr:=hv _ (cZ fm)
  rw[if_pos h,fy fm]
  refine og.enter (n:=23) Tryz.func48 rfl rfl rfl rfl rfl (by decide) rfl rfl fun g fD fB=>?_;refine sF ?_
  (refine y_ ?_;refine zs ?_;refine na ?_;refine ko ?_;refine FL ?_;refine a_.neg rfl rfl rfl aJ ?_;refine rW ?_;refine au ?_;refine a_.neg rfl rfl rfl aJ ?_;refine xv ?_)
  (apply iT;((exact gk.one (.tmp rfl rfl)));((exact Al));((exact Q2));exact rfl)
 ·have fm:x.toNat<s.value.length:=by omega
  rw[if_neg h,fy fm]
  refine og.enter (n:=23) Tryz.func48 rfl rfl rfl rfl rfl (by decide) rfl rfl fun g fD fB=>?_;refine sF ?_
  (refine y_ ?_;refine zs ?_;refine ph ?_;refine ko ?_;refine FL ?_;refine rW ?_;refine au ?_;refine kQ ?_)
  (apply iT;((exact gk.one (.tmp rfl rfl)));((exact Al));((exact Q2));exact rfl)
end Go.Ab
/- The solver's trail:a literal made true,a decision,the least free variable,walked. -/
namespace Go.Ab
open Go Go.Proofs
open Nat (reduceAdd reduceSub)
set_option maxRecDepth 20000
set_option maxHeartbeats 4000000
def fa (x:Int):Nat:=(max x (-x)).toNat
def qt (x:Int):Int:=if x<0 then -1 else 1
def fF (s:SR) (x r:Int) (h:Value):SR:={s with value:=s.value.set (fa x) (qt x),level:=s.level.set (fa x) s.marks.length,reason:=s.reason.set (fa x) r,hl:=eZ s.hl 0 h,ll:=eZ s.ll 0 (s.ll 0++ [x])}
theorem ig (l:List Int) (i:Nat) (x:Int):(l.map encI).set i [PV.lit (.int .i64 x)]=(l.set i x).map encI:=by
 rw[List.map_set];rfl
attribute [local irreducible] gx AW a_ gb fq AR fz fk fJ fX kp lh
theorem qa (s:SR) (x r:Int) (hb: -1000000≤x∧x≤1000000) (hx:x<s.value.length∧ -x<s.value.length) (h1:s.level.length=s.value.length) (h2:s.reason.length=s.value.length) (hl:(s.ll 0).length≤1000000) (hm:s.marks.length≤1000000):
  tP Tryz.prog 49 11 (gV s) [.ptr 0 0,eV x,eV r] (fun h:Value=>h.oneCell'=true) (fun h=>gV (fF s x r h)) (fun _=> .gX []):=by
 have hv:(max x (-x)).toNat<s.value.length:=by omega
 have H6:0≤max x (-x):=by omega
 by_cases h:x<0
 ·refine tP.enter (n:=53) Tryz.func49 rfl rfl rfl rfl rfl (by decide) rfl (fun _=>rfl) fun g fD fB=>?_;refine sF ?_
  (refine zq ?_;refine J7 ?_;refine uO ?_;refine FL ?_;refine rW ?_;(with_reducible apply a_.gu);(iterate 4 exact rfl);exact ag;(iterate 3 exact rfl);refine mw ?_;refine nf ?_;refine zs ?_;refine na ?_;refine qs ?_;refine FL ?_;(with_reducible apply a_.wJ);(iterate 7 exact rfl);omega;exact aa;(with_reducible apply a_.gu);(iterate 4 exact rfl);exact ag;(iterate 3 exact rfl);refine mw ?_;refine zo ?_;refine AW.gv [0,1,2,3,4,5,6,7,8,9,10] [11] rfl (by assumption) aI aI rfl ?_;show a_ .held _ _ _ [_,_,_,_,_,_,_,_,_,_,_] _ _;refine oB ?_;refine HP ?_;refine oB ?_;refine zC ?_;refine rW ?_;refine Q4 ?_;intro k_ iL;refine Q0 ?_;refine DN ?_;intro g_ b_ fe;(with_reducible apply a_.gu);(iterate 4 exact rfl);exact ag;(iterate 3 exact rfl);refine r9 ?_;refine zq ?_;refine oB ?_;refine a_.c_ 92 2 2 rfl rfl rfl rfl ?_;refine zb ?_;(iterate 2 refine zm ?_);refine rW ?_;(with_reducible apply a_.gu);(iterate 4 exact rfl);exact ag;(iterate 3 exact rfl);refine mw ?_;refine AW.region ?_;refine Eb ?_;refine C9 ?_;refine zm ?_;(with_reducible apply a_.nr);(iterate 5 exact rfl);exact ag;exact rfl;exact rfl;refine Q0 ?_;(with_reducible apply a_.lO 4);exact rfl;exact rfl;exact ah;(iterate 8 exact rfl);omega;(intro v_ Jc);refine IQ ?_;refine a_.c_ 92 3 3 rfl rfl rfl rfl ?_;(with_reducible apply a_.gn);(iterate 5 exact rfl);exact ag;(iterate 3 exact rfl);(with_reducible assumption);refine Q0 ?_;refine a_.nil ?_)
  (apply mF (v_) (Jc);((exact gk.none));((exact qS));((refine⟨.box _ rfl ?_,?_⟩;(iterate 2 refine QJ ?_);(iterate 2 refine V6 ?_);refine QJ ?_;refine V6 ?_;(iterate 2 refine⟨.fg (by first|rfl|(simp only[fF,ig,fa,qt,dk,if_pos h])),?_⟩);refine V6 ?_;(iterate 2 refine⟨.ib (by first|rfl|(simp only[fF,ig,fa,qt,dk,if_pos h])),?_⟩);exact trivial;(iterate 3 refine aF ?_);refine N8 ?_;(iterate 2 refine aF ?_);refine N8 ?_;refine aF ?_;refine N8 ?_;exact DA));exact rfl)
 ·refine tP.enter (n:=53) Tryz.func49 rfl rfl rfl rfl rfl (by decide) rfl (fun _=>rfl) fun g fD fB=>?_;refine sF ?_
  (refine zq ?_;refine J7 ?_;refine uO ?_;refine FL ?_;refine rW ?_;(with_reducible apply a_.gu);(iterate 4 exact rfl);exact ag;(iterate 3 exact rfl);refine mw ?_;refine nf ?_;refine zs ?_;refine ph ?_;refine zo ?_;refine AW.gv [0,1,2,3,4,5,6,7,8,9,10] [11] rfl (by assumption) aI aI rfl ?_;show a_ .held _ _ _ [_,_,_,_,_,_,_,_,_,_,_] _ _;refine oB ?_;refine HP ?_;refine oB ?_;refine zC ?_;refine rW ?_;refine Q4 ?_;intro k_ iL;refine Q0 ?_;refine DN ?_;intro g_ b_ fe;(with_reducible apply a_.gu);(iterate 4 exact rfl);exact ag;(iterate 3 exact rfl);refine r9 ?_;refine zq ?_;refine oB ?_;refine a_.c_ 92 2 2 rfl rfl rfl rfl ?_;refine zb ?_;(iterate 2 refine zm ?_);refine rW ?_;(with_reducible apply a_.gu);(iterate 4 exact rfl);exact ag;(iterate 3 exact rfl);refine mw ?_;refine AW.region ?_;refine Eb ?_;refine C9 ?_;refine zm ?_;(with_reducible apply a_.nr);(iterate 5 exact rfl);exact ag;exact rfl;exact rfl;refine Q0 ?_;(with_reducible apply a_.lO 4);exact rfl;exact rfl;exact ah;(iterate 8 exact rfl);omega;(intro v_ Jc);refine IQ ?_;refine a_.c_ 92 3 3 rfl rfl rfl rfl ?_;(with_reducible apply a_.gn);(iterate 5 exact rfl);exact ag;(iterate 3 exact rfl);(with_reducible assumption);refine Q0 ?_;refine a_.nil ?_)
  (apply mF (v_) (Jc);((exact gk.none));((exact qS));((refine⟨.box _ rfl ?_,?_⟩;(iterate 2 refine QQ ?_);(iterate 2 refine Ws ?_);refine QQ ?_;refine Ws ?_;(iterate 2 refine⟨.fg (by first|rfl|(simp only[fF,ig,fa,qt,dk,if_neg h])),?_⟩);refine Ws ?_;(iterate 2 refine⟨.ib (by first|rfl|(simp only[fF,ig,fa,qt,dk,if_neg h])),?_⟩);exact trivial;(iterate 3 refine aF ?_);refine Nt ?_;(iterate 2 refine aF ?_);refine Nt ?_;refine aF ?_;refine Nt ?_;exact DA));exact rfl)
end Go.Ab
/- The solver's trail:decisions,the least free variable,going back,walked. -/
namespace Go.Ab
open Go Go.Proofs
open Nat (reduceAdd reduceSub)
set_option maxRecDepth 20000
set_option maxHeartbeats 4000000
def hX (s:SR):SR:={s with marks:=s.marks++ [((s.ll 0).length:Int)]}
def kl (v:List Int) (low:Nat):Nat:=low+((v.drop low).takeWhile fun x=>decide (x≠0)).length
theorem wh {v:List Int} {low:Nat} (h:¬low<v.length):kl v low=low:=by
 unfold kl
 rw[List.drop_eq_nil_of_le aJ];rfl
theorem tO {v:List Int} {low:Nat} (h:low<v.length) (h0:v[low]=0):kl v low=low:=by
 unfold kl
 rw[dm h,List.takeWhile_cons_of_neg (by simp [h0])];rfl
theorem tx {v:List Int} {low:Nat} (h:low<v.length) (h0:v[low]≠0):kl v low=kl v (low+1):=by
 unfold kl
 rw[dm h,List.takeWhile_cons_of_pos (by simp [h0])]
 simp only[List.length_cons];omega
theorem yX {v:List Int}:∀{n low:Nat},v.length - low=n→low≤v.length→low≤kl v low∧kl v low≤v.length
 |0,low,h,hl=>by rw[wh aJ];omega
 |n+1,low,h,hl=>by
  have fm:low<v.length:=by omega
  by_cases h0:v[low]=0
  ·rw[tO fm h0];omega
  ·rw[tx fm h0]
   have:=yX (v:=v) (n:=n) (low:=low+1) aJ (by omega)
   omega
def zeroV (v:List Int) (l:List Int):List Int:=l.foldl (fun v x=>v.set (fa x) 0) v
def o6 (low:Int) (l:List Int):Int:=l.foldl (fun m x=>min m (max x (-x))) low
theorem gp (v:List Int):zeroV v []=v:=rfl
theorem gE (b:Int):o6 b []=b:=rfl
theorem qp (l v:List Int):(zeroV v l).length=v.length:=by
 unfold zeroV
 induction l generalizing v with
 |nil=>rfl
 |cons x l ih=>rw[ct,ih];simp
theorem C5 {v l:List Int} {k:Nat} (h:k<l.length):zeroV v (l.take (k+1))=(zeroV v (l.take k)).set (fa l[k]) 0:=by
 unfold zeroV
 rw[dp h,dq];rfl
theorem Gf {b:Int} {l:List Int} {k:Nat} (h:k<l.length):o6 b (l.take (k+1))=min (o6 b (l.take k)) (max l[k] (-l[k])):=by
 unfold o6
 rw[dp h,dq];rfl
theorem JI {b:Int} {l:List Int} (hb:0≤b∧b≤1000000) (hl:∀x∈l,-1000000≤x∧x≤1000000):0≤o6 b l∧o6 b l≤1000000:=by
 unfold o6
 induction l generalizing b with
 |nil=>exact hb
 |cons x l ih=>
  have:=hl x (by simp)
  rw[ct]
  exact ih (by show 0≤min b (max x (-x))∧min b (max x (-x))≤_;omega) fun y hy=>hl y (by simp [hy])
def EX (s:SR) (lv:Nat):SR:={s with value:=zeroV s.value ((s.ll 0).drop (s.marks.getD lv 0).toNat),low:=o6 s.low ((s.ll 0).drop (s.marks.getD lv 0).toNat),hl:=eZ s.hl 0 (iY (s.marks.getD lv 0).toNat (s.hl 0)),ll:=eZ s.ll 0 ((s.ll 0).take (s.marks.getD lv 0).toNat),marks:=s.marks.take lv}
attribute [local irreducible] gx AW a_ gb fq AR fz fk fJ fX kp lh kl zeroV o6
theorem CS (s:SR) (hl:(s.ll 0).length≤1000000) (hm:s.marks.length≤1000000):og Tryz.prog 57 11 (gV s) [.ptr 0 0,eV 0] (gV (hX s)) (.gX []):=by
 refine og.enter (n:=23) Tryz.func57 rfl rfl rfl rfl rfl (by decide) rfl rfl fun g fD fB=>?_;refine sF ?_
 (refine zo ?_;refine AW.gv [0,1,2,3,4,5,6,7,8,9] [14] rfl (by assumption) aI aI rfl ?_;show a_ .held _ _ _ [_,_,_,_,_,_,_,_,_,_] _ _;refine Eb ?_;refine a_.c_ 92 4 4 rfl rfl rfl rfl ?_;refine zb ?_;refine oB ?_;refine Ds ?_;refine Q4 ?_;intro k_ iL;refine Q0 ?_;refine AR.fG (i:=10) rfl aI rfl ?_;intro g_ b_ f_;(with_reducible apply a_.nr);(iterate 5 exact rfl);exact ag;exact rfl;exact rfl;refine jS ?_;refine AR.fG (i:=11) rfl aI rfl ?_;intro g_ b_ f_;(with_reducible apply a_.fI);exact rfl;exact ah;(iterate 9 exact rfl);exact aa;refine jS ?_;refine OZ ?_;intro g_ b_;show a_ .held _ _ _ [_,_] _ _;refine a_.fj rfl rfl rfl ?_;refine a_.c_ 92 4 4 rfl rfl rfl rfl ?_;refine Q4 ?_;intro k_ iL;refine Q0 ?_;refine uS ?_;intro g_ b_ fe;(with_reducible apply a_.gn);(iterate 5 exact rfl);exact ag;(iterate 3 exact rfl);(with_reducible assumption);refine r9 ?_;refine ta ?_;refine a_.neq rfl rfl rfl rfl rfl ?_;refine zd ?_;refine AW.jT rfl rfl ?_;refine AW.skip ?_)
 (apply n7;((exact gk.none));((exact qS));((refine⟨.box _ rfl ?_,?_⟩;(iterate 2 refine SX ?_);(iterate 2 refine Uv ?_);refine SX ?_;refine Uv ?_;(iterate 2 refine⟨.fg (by first|rfl|(simp only[hX,cV,bB,b8];rfl)),?_⟩);refine Uv ?_;(iterate 2 refine⟨.ib (by first|rfl|(simp only[hX,cV,bB,b8];rfl)),?_⟩);exact trivial;(iterate 3 refine aF ?_);refine Pn ?_;(iterate 2 refine aF ?_);refine Pn ?_;refine aF ?_;refine Pn ?_;exact DA));exact rfl)
theorem wP (s:SR) (x:Int) (h0:x≠0) (hb: -1000000≤x∧x≤1000000) (hx:x<s.value.length∧ -x<s.value.length) (h1:s.level.length=s.value.length) (h2:s.reason.length=s.value.length) (hl:(s.ll 0).length≤100000) (hm:s.marks.length≤100000):
  tP Tryz.prog 57 11 (gV s) [.ptr 0 0,eV x] (fun h:Value=>h.oneCell'=true) (fun h=>gV (fF (hX s) x (-1) h)) (fun _=> .gX []):=by
 have hp:=qa (hX s) x (-1) hb hx h1 h2 (by show(s.ll 0).length≤_;omega) (by show(s.marks++_).length≤_;simp;omega)
 rw[show gV (hX s)=gV {hX s with marks:=s.marks++ [((s.ll 0).length:Int)]} from rfl] at hp
 simp only[gV,gW,cV,bB,b8] at hp
 refine tP.enter (n:=23) Tryz.func57 rfl rfl rfl rfl rfl (by decide) rfl (fun _=>rfl) fun g fD fB=>?_;refine sF ?_
 (refine zo ?_;refine AW.gv [0,1,2,3,4,5,6,7,8,9] [14] rfl (by assumption) aI aI rfl ?_;show a_ .held _ _ _ [_,_,_,_,_,_,_,_,_,_] _ _;refine Eb ?_;refine a_.c_ 92 4 4 rfl rfl rfl rfl ?_;refine zb ?_;refine oB ?_;refine Ds ?_;refine Q4 ?_;intro k_ iL;refine Q0 ?_;refine AR.fG (i:=10) rfl aI rfl ?_;intro g_ b_ f_;(with_reducible apply a_.nr);(iterate 5 exact rfl);exact ag;exact rfl;exact rfl;refine jS ?_;refine AR.fG (i:=11) rfl aI rfl ?_;intro g_ b_ f_;(with_reducible apply a_.fI);exact rfl;exact ah;(iterate 9 exact rfl);exact aa;refine jS ?_;refine OZ ?_;intro g_ b_;show a_ .held _ _ _ [_,_] _ _;refine a_.fj rfl rfl rfl ?_;refine a_.c_ 92 4 4 rfl rfl rfl rfl ?_;refine Q4 ?_;intro k_ iL;refine Q0 ?_;refine uS ?_;intro g_ b_ fe;(with_reducible apply a_.gn);(iterate 5 exact rfl);exact ag;(iterate 3 exact rfl);(with_reducible assumption);refine r9 ?_;refine ta ?_;refine a_.neq rfl rfl rfl rfl rfl ?_;refine na ?_;refine qs ?_;refine FU ?_;(with_reducible apply a_.jU (hf:=hp));(with_reducible assumption);(iterate 3 exact rfl);exact aq;exact ak;(intro x_;exact rfl);exact rfl;exact al;(intro x_;exact al);(intro x_;exact rfl);exact rfl;(intro x_ pq);refine mB ?_;refine a_.nil ?_)
 (apply mF (x_) (pq);((exact gk.none));((exact qS));((exact Te));exact rfl)
theorem Kr (s:SR) (low:Nat) (hs:s.low=(low:Int)) (hle:low≤s.value.length) (hl:s.value.length≤1000000):
  og Tryz.prog 58 11 (gV s) [.ptr 0 0] (gV {s with low:=(kl s.value low:Int)}) (eV (if kl s.value low=s.value.length then 0 else (kl s.value low:Int))):=by
 simp only[gV,gW,hs]
 have hb:=yX (v:=s.value) rfl hle
 refine og.enter (n:=47) Tryz.func58 rfl rfl rfl rfl rfl (by decide) rfl rfl fun g fD fB=>?_;refine sF ?_
 (refine zq ?_;refine pz ?_;refine AW.block ?_)
 (refine Q0 ?_;apply AW.gN [2,0,1000] [1,2,3,4,5,6,7,8,9,10] (fun k:Nat=>([]:List (Nat×AV))) (fun k:Nat=>([(0,some (.box [.own 1 3 1 ((s.value).map encI),.own 2 3 1 ((s.level).map encI),.own 3 3 1 ((s.reason).map encI),.pv (.lit (s.hl 0)),.own 5 3 1 ((s.marks).map encI),eV ((k:Int)),.own 6 29 1 (gx s.nc s.hc),.own 8 29 1 (gx s.nw s.hw),eV (s.head),eV (s.added),fh (s.broken),.own 10 65 3 ((s.proof).map o_),eV 0,.pv (jI (s.model)),.pv (jI (s.core))]))]:List (Nat×Option Ob))) (fun k:Nat=>(k≤s.value.length∧kl s.value k=kl s.value low)) (fun k:Nat=>s.value.length - k) (low);(conv=>lhs;simp only[Nf.nN,Nf.all,di,reduceAdd,reduceSub]);(all_goals skip))
 ·exact⟨hle,rfl⟩
 ·exact fp rfl (by(refine aD ?_;(iterate 2 refine aC ?_);exact trivial)) (by(refine⟨.box _ rfl ?_,?_⟩;(iterate 3 refine aE ?_);refine aD ?_;refine aE ?_;refine aD ?_;(iterate 2 refine aE ?_);(iterate 3 refine aD ?_);refine aE ?_;refine aD ?_;(iterate 2 refine aG ?_);exact trivial;(iterate 3 refine aF ?_);refine aH ?_;(iterate 2 refine aF ?_);refine aH ?_;refine aF ?_;refine aH ?_;refine aF ?_;exact trivial)) rfl
 rintro k ⟨hk,hf⟩
 by_cases fm:k<s.value.length
 ·by_cases h0:s.value[k]=0
  ·have e:=tO fm h0
   rw[hf] at e
   have VR:(decide (s.value[k]≠0))=false:=by simp [h0]
   have fW:¬k=s.value.length:=by omega
   rw[e,if_neg fW]
   ((iterate 2 refine zo ?_);(with_reducible apply AW.fY);exact rfl;exact rfl;kernel_rfl;(with_reducible assumption);refine HX ?_;refine zs ?_;refine zm ?_;refine Qs ?_;refine au ?_;refine zt ?_;refine a_.neq rfl rfl rfl rfl rfl ?_;refine zT ?_;refine zd ?_;refine zk ?_;refine D5 ?_;(iterate 2 refine zo ?_);(with_reducible apply AW.fY);exact rfl;exact rfl;kernel_rfl;(with_reducible assumption);refine HX ?_;refine pN ?_;refine uP ?_;refine ko ?_;refine oB ?_;refine a_.c_ 92 5 5 rfl rfl rfl rfl ?_;refine zb ?_;refine kQ ?_)
   (apply iT;((exact gk.one (.tmp rfl rfl)));((exact Al));((exact Q2));exact rfl)
  ·have VR:(decide (s.value[k]≠0))=true:=by simp [h0]
   have e:=tx fm h0
   ((iterate 2 refine zo ?_);(with_reducible apply AW.fY);exact rfl;exact rfl;kernel_rfl;(with_reducible assumption);refine HX ?_;refine zs ?_;refine zm ?_;refine Qs ?_;refine au ?_;refine zt ?_;refine a_.neq rfl rfl rfl rfl rfl ?_;refine zT ?_;refine na ?_;refine Cd ?_;refine AW.block ?_;refine qs ?_;refine oB ?_;refine a_.c_ 92 5 5 rfl rfl rfl rfl ?_;refine zb ?_;refine zj ?_;refine a_.fj rfl rfl rfl ?_;refine a_.c_ 92 5 5 rfl rfl rfl rfl ?_;(with_reducible apply a_.gn);(iterate 5 exact rfl);exact ag;(iterate 3 exact rfl);(with_reducible assumption);refine Q0 ?_;refine E_ ?_)
   exact⟨k+1,⟨by omega,by rw[← e];exact hf⟩,by omega,fp rfl (by(refine aD ?_;(iterate 2 refine aC ?_);exact trivial)) (by(refine⟨.box _ rfl ?_,?_⟩;(iterate 3 refine aE ?_);refine aD ?_;refine aE ?_;refine aD ?_;(iterate 2 refine aE ?_);(iterate 3 refine aD ?_);refine aE ?_;refine aD ?_;(iterate 2 refine aG ?_);exact trivial;(iterate 3 refine aF ?_);refine aH ?_;(iterate 2 refine aF ?_);refine aH ?_;refine aF ?_;refine aH ?_;refine aF ?_;exact trivial)) rfl⟩
 ·have rE:k=s.value.length:=by omega
  have e:=wh (v:=s.value) (low:=k) fm
  rw[hf] at e
  rw[e,if_pos rE]
  ((iterate 2 refine zo ?_);(with_reducible apply AW.fY);exact rfl;exact rfl;kernel_rfl;(with_reducible assumption);refine HX ?_;refine zs ?_;refine zm ?_;(iterate 11 refine a_.oo rfl rfl rfl rfl rfl rfl (by first|omega|decide) ?_);refine zF ?_;refine zd ?_;refine AW.jT rfl rfl ?_;refine D5 ?_;(iterate 2 refine zo ?_);(with_reducible apply AW.fY);exact rfl;exact rfl;kernel_rfl;(with_reducible assumption);refine HX ?_;refine pN ?_;refine zc ?_;refine ko ?_;refine xv ?_)
  (apply iT;((exact gk.one (.tmp rfl rfl)));((exact Al));((exact Q2));exact rfl)
theorem wD (s:SR) (lv:Int) (qV:(s.marks.length:Int)≤lv):og Tryz.prog 47 11 (gV s) [.ptr 0 0,eV lv] (gV s) (.gX []):=by
 refine og.enter (n:=75) Tryz.func47 rfl rfl rfl rfl rfl (by decide) rfl rfl fun g fD fB=>?_;refine sF ?_
 (refine nf ?_;refine oB ?_;refine zC ?_;refine a_.geq rfl rfl rfl rfl rfl ?_;refine na ?_;refine AW.ret ?_;refine gH ?_)
 (apply iT;((exact gk.none));((exact qS));((exact Q2));exact rfl)
theorem IW (s:SR) (lv:Nat) (qV:lv<s.marks.length) (hm:0≤s.marks[lv]∧s.marks[lv].toNat≤(s.ll 0).length) (hl:(s.ll 0).length≤1000000) (PE:0≤s.low∧s.low≤1000000)
  (hx:∀x∈s.ll 0,(-1000000≤x∧x≤1000000)∧fa x<s.value.length):og Tryz.prog 47 11 (gV s) [.ptr 0 0,eV lv] (gV (EX s lv)) (.gX []):=by
 have M6:s.marks.getD lv 0=s.marks[lv]:=fy qV
 have pP:(s.marks.getD lv 0).toNat≤(s.ll 0).length:=by rw[M6];exact hm.2
 unfold EX
 rw[M6]
 have Ap:((s.ll 0).drop (s.marks[lv]).toNat).length=(s.ll 0).length - (s.marks[lv]).toNat:=List.length_drop
 simp only[gV,gW]
 refine og.enter (n:=75) Tryz.func47 rfl rfl rfl rfl rfl (by decide) rfl rfl fun g fD fB=>?_;refine sF ?_
 refine AW.yT 4 rfl fun UR Wm=>?_
 (refine nf ?_;refine oB ?_;refine zC ?_;refine a_.geq rfl rfl rfl rfl rfl ?_;refine ph ?_;(iterate 2 refine zo ?_);(with_reducible apply AW.fY);exact rfl;exact rfl;kernel_rfl;(with_reducible assumption);refine oB ?_;refine C9 ?_;refine oB ?_;refine a_.c_ 92 4 4 rfl rfl rfl rfl ?_;refine jf ?_;refine GF ?_;refine au ?_;(with_reducible apply a_.wm 4);(iterate 8 exact rfl);exact ab;exact ab;refine a_.yI 4 rfl rfl rfl rfl rfl ?_;refine zZ ?_)
 (refine Q0 ?_;apply AW.gN [26,25,0,1,1000] [1,2,3,4,5,6,7,8,9,10] (fun k:Nat=>([(27,eV k)]:List (Nat×AV))) (fun k:Nat=>([(0,some (.box [.own 1 3 1 ((zeroV s.value (((s.ll 0).drop (s.marks[lv]).toNat).take k)).map encI),.own 2 3 1 ((s.level).map encI),.own 3 3 1 ((s.reason).map encI),.pv (.lit (s.hl 0)),.own 5 3 1 ((s.marks).map encI),eV (o6 s.low (((s.ll 0).drop (s.marks[lv]).toNat).take k)),.own 6 29 1 (gx s.nc s.hc),.own 8 29 1 (gx s.nw s.hw),eV (s.head),eV (s.added),fh (s.broken),.own 10 65 3 ((s.proof).map o_),eV 0,.pv (jI (s.model)),.pv (jI (s.core))]))]:List (Nat×Option Ob))) (fun k:Nat=>k≤((s.ll 0).drop (s.marks[lv]).toNat).length) (fun k:Nat=>((s.ll 0).drop (s.marks[lv]).toNat).length - k) (0);(conv=>lhs;simp only[Nf.nN,Nf.all,di,reduceAdd,reduceSub]);(all_goals skip))
 ·exact bm _
 ·exact fp rfl (by(refine⟨.fg (by first|rfl|(simp only[dr,gp,gE])),?_⟩;refine⟨.fg (by first|rfl|(simp only[dr,gp,gE])),?_⟩;refine⟨.fg (by first|rfl|(simp only[dr,gp,gE])),?_⟩;refine aC ?_;refine⟨.fg (by first|rfl|(simp only[dr,gp,gE])),?_⟩;refine aC ?_;exact trivial)) (by(refine⟨.box _ rfl ?_,?_⟩;refine⟨.e9 (by first|rfl|(simp only[dr,gp,gE])) rfl,?_⟩;refine⟨.e9 (by first|rfl|(simp only[dr,gp,gE])) rfl,?_⟩;refine⟨.e9 (by first|rfl|(simp only[dr,gp,gE])) rfl,?_⟩;refine⟨.fg (by first|rfl|(simp only[dr,gp,gE])),?_⟩;refine⟨.e9 (by first|rfl|(simp only[dr,gp,gE])) rfl,?_⟩;refine⟨.fg (by first|rfl|(simp only[dr,gp,gE])),?_⟩;refine⟨.e9 (by first|rfl|(simp only[dr,gp,gE])) rfl,?_⟩;refine⟨.e9 (by first|rfl|(simp only[dr,gp,gE])) rfl,?_⟩;refine⟨.fg (by first|rfl|(simp only[dr,gp,gE])),?_⟩;refine⟨.fg (by first|rfl|(simp only[dr,gp,gE])),?_⟩;refine⟨.fg (by first|rfl|(simp only[dr,gp,gE])),?_⟩;refine⟨.e9 (by first|rfl|(simp only[dr,gp,gE])) rfl,?_⟩;refine⟨.fg (by first|rfl|(simp only[dr,gp,gE])),?_⟩;refine⟨.ib (by first|rfl|(simp only[dr,gp,gE])),?_⟩;refine⟨.ib (by first|rfl|(simp only[dr,gp,gE])),?_⟩;exact trivial;(iterate 3 refine aF ?_);refine⟨.e8 rfl (by first|rfl|(simp only[dr,gp,gE])),?_⟩;(iterate 2 refine aF ?_);refine⟨.e8 rfl (by first|rfl|(simp only[dr,gp,gE])),?_⟩;refine aF ?_;refine⟨.e8 rfl (by first|rfl|(simp only[dr,gp,gE])),?_⟩;refine aF ?_;exact trivial)) rfl
 rintro k hk
 have Uw:=qp (((s.ll 0).drop (s.marks[lv]).toNat).take k) s.value
 by_cases DE:k<((s.ll 0).drop (s.marks[lv]).toNat).length
 ·have hz:=C5 (v:=s.value) DE
  have rF:=Gf (b:=s.low) DE
  have Bj:((s.ll 0).drop (s.marks[lv]).toNat)[k]=(s.ll 0)[(s.marks[lv]).toNat+(k:Int).toNat]'(by simp only[dt];omega):=List.getElem_drop
  rw[Bj] at hz rF
  obtain⟨hr,KV⟩:=hx _ (cZ (show(s.marks[lv]).toNat+(k:Int).toNat<(s.ll 0).length by simp only[dt];omega))
  have m_:=JI (b:=s.low) (l:=((s.ll 0).drop (s.marks[lv]).toNat).take k) PE fun y hy=>(hx y (List.mem_of_mem_drop (cT hy))).1
  unfold fa at KV hz
  (refine zq ?_;refine zs ?_;refine zd ?_;refine Q5 ?_;refine ko ?_;(with_reducible apply a_.wz 4);(iterate 8 exact rfl);exact ab;exact ab;refine aw ?_;refine uO ?_;refine J7 ?_;refine uO ?_;refine FL ?_;refine rW ?_;(with_reducible apply a_.gu);(iterate 4 exact rfl);exact ag;(iterate 3 exact rfl);refine mw ?_;refine AW.region ?_;refine Eb ?_;refine a_.c_ 92 5 5 rfl rfl rfl rfl ?_;refine jf ?_;refine a_.min2 rfl rfl rfl rfl rfl ?_;refine a_.fj rfl rfl rfl ?_;refine a_.c_ 92 5 5 rfl rfl rfl rfl ?_;(with_reducible apply a_.gn);(iterate 5 exact rfl);exact ag;(iterate 3 exact rfl);(with_reducible assumption);refine Q0 ?_;refine xz ?_)
  exact⟨k+1,by omega,by omega,fp rfl (by(refine⟨.fg (by first|rfl|(rw[ig,hz])|(rw[rF])),?_⟩;refine⟨.fg (by first|rfl|(rw[ig,hz])|(rw[rF])),?_⟩;refine⟨.fg (by first|rfl|(rw[ig,hz])|(rw[rF])),?_⟩;refine aC ?_;refine⟨.fg (by first|rfl|(rw[ig,hz])|(rw[rF])),?_⟩;refine aC ?_;exact trivial)) (by(refine⟨.box _ rfl ?_,?_⟩;refine⟨.e9 (by first|rfl|(rw[ig,hz])|(rw[rF])) rfl,?_⟩;refine⟨.e9 (by first|rfl|(rw[ig,hz])|(rw[rF])) rfl,?_⟩;refine⟨.e9 (by first|rfl|(rw[ig,hz])|(rw[rF])) rfl,?_⟩;refine⟨.fg (by first|rfl|(rw[ig,hz])|(rw[rF])),?_⟩;refine⟨.e9 (by first|rfl|(rw[ig,hz])|(rw[rF])) rfl,?_⟩;refine⟨.fg (by first|rfl|(rw[ig,hz])|(rw[rF])),?_⟩;refine⟨.e9 (by first|rfl|(rw[ig,hz])|(rw[rF])) rfl,?_⟩;refine⟨.e9 (by first|rfl|(rw[ig,hz])|(rw[rF])) rfl,?_⟩;refine⟨.fg (by first|rfl|(rw[ig,hz])|(rw[rF])),?_⟩;refine⟨.fg (by first|rfl|(rw[ig,hz])|(rw[rF])),?_⟩;refine⟨.fg (by first|rfl|(rw[ig,hz])|(rw[rF])),?_⟩;refine⟨.e9 (by first|rfl|(rw[ig,hz])|(rw[rF])) rfl,?_⟩;refine⟨.fg (by first|rfl|(rw[ig,hz])|(rw[rF])),?_⟩;refine⟨.ib (by first|rfl|(rw[ig,hz])|(rw[rF])),?_⟩;refine⟨.ib (by first|rfl|(rw[ig,hz])|(rw[rF])),?_⟩;exact trivial;(iterate 3 refine aF ?_);refine⟨.e8 rfl (by first|rfl|(rw[ig,hz])|(rw[rF])),?_⟩;(iterate 2 refine aF ?_);refine⟨.e8 rfl (by first|rfl|(rw[ig,hz])|(rw[rF])),?_⟩;refine aF ?_;refine⟨.e8 rfl (by first|rfl|(rw[ig,hz])|(rw[rF])),?_⟩;refine aF ?_;exact trivial)) rfl⟩
 ·obtain rfl:k=((s.ll 0).drop (s.marks[lv]).toNat).length:=by omega
  rw[da]
  (refine lU ?_;refine zo ?_;refine AW.gv [0,1,2,3,4,5,6,7,8,9,10] [15] rfl (by assumption) aI aI rfl ?_;show a_ .held _ _ _ [_,_,_,_,_,_,_,_,_,_,_] _ _;refine Eb ?_;refine C9 ?_;refine oB ?_;refine a_.c_ 92 4 4 rfl rfl rfl rfl ?_;refine jf ?_;refine GF ?_;refine Q4 ?_;intro k_ iL;refine zJ ?_;intro g_ b_ f_;refine au ?_;refine Q4 ?_;refine AR.iw [12,13,14] aI aI aI aI ?_;intro g_ b_;show a_ .held _ _ _ [_,_,_] _ _;(with_reducible apply a_.tt 4);(iterate 8 exact rfl);exact ab;exact ab;refine a_.fj rfl rfl rfl ?_;refine a_.c_ 92 3 3 rfl rfl rfl rfl ?_;refine Q4 ?_;intro k_ iL;refine Q0 ?_;refine AR.iI (i:=15) rfl aI rfl aI ?_;intro g_ b_ fe;(with_reducible apply a_.gn);(iterate 5 exact rfl);exact ag;(iterate 3 exact rfl);(with_reducible assumption);refine r9 ?_;(with_reducible apply AW.ug 9 4 0 (s.marks.getD lv 0).toNat);exact rfl;omega;(rw[M6]);refine aB ?_;refine AW.region ?_;refine Eb ?_;refine a_.c_ 92 4 4 rfl rfl rfl rfl ?_;refine jf ?_;(with_reducible apply a_.Fc);(iterate 7 exact rfl);omega;exact aa;refine a_.fj rfl rfl rfl ?_;refine a_.c_ 92 4 4 rfl rfl rfl rfl ?_;(with_reducible apply a_.gn);(iterate 5 exact rfl);exact ag;(iterate 3 exact rfl);(with_reducible assumption);refine Q0 ?_;refine a_.nil ?_)
  (apply n7;((exact gk.none));((exact qS));((refine⟨.box _ rfl ?_,?_⟩;(iterate 2 refine Sn ?_);(iterate 2 refine Pb ?_);refine Sn ?_;refine Pb ?_;(iterate 2 refine⟨.fg (by first|rfl|(rw[cW];rfl)),?_⟩);refine Pb ?_;(iterate 2 refine⟨.ib (by first|rfl|(rw[cW];rfl)),?_⟩);exact trivial;(iterate 3 refine aF ?_);refine Oz ?_;(iterate 2 refine aF ?_);refine Oz ?_;refine aF ?_;refine Oz ?_;exact DA));exact rfl)
end Go.Ab
/- The solver:going back to a level;a clause attached,walked. -/
namespace Go.Ab
open Go Go.Proofs
open Nat (reduceAdd reduceSub)
set_option maxRecDepth 20000
set_option maxHeartbeats 4000000
def EN (s:SR):SR:={s with head:=min s.head ((s.ll 0).length:Int)}
def jP (s:SR) (x:Int) (at':Nat) (h:Value):SR:={s with hw:=eZ s.hw (eQ x).toNat h,wl:=eZ s.wl (eQ x).toNat (s.wl (eQ x).toNat++ [(at':Int)])}
structure AtI (s:SR) (x y:Int) (k:Nat) (hw:Nat→Value) (wl:Nat→List Int):Prop where
 le:k≤2
 i0:k=0→hw=s.hw∧wl=s.wl
 i1:k=1→∃h:Value,h.oneCell'=true∧hw=eZ s.hw (eQ x).toNat h∧wl=eZ s.wl (eQ x).toNat (s.wl (eQ x).toNat++ [(s.nc:Int)])
 i2:k=2→∃h h':Value,h.oneCell'=true∧h'.oneCell'=true∧hw=eZ (eZ s.hw (eQ x).toNat h) (eQ y).toNat h'∧wl=eZ (eZ s.wl (eQ x).toNat (s.wl (eQ x).toNat++ [(s.nc:Int)])) (eQ y).toNat (eZ s.wl (eQ x).toNat (s.wl (eQ x).toNat++ [(s.nc:Int)]) (eQ y).toNat++ [(s.nc:Int)])
attribute [local irreducible] gx AW a_ gb fq AR fz fk fJ fX kp lh eQ
theorem Ah (s s1:SR) (lv:Int) (hb:og Tryz.prog 47 11 (gV s) [.ptr 0 0,eV lv] (gV s1) (.gX [])):og Tryz.prog 51 11 (gV s) [.ptr 0 0,eV lv] (gV (EN s1)) (.gX []):=by
 simp only[gV,gW] at hb ⊢
 refine og.enter (n:=23) Tryz.func51 rfl rfl rfl rfl rfl (by decide) rfl rfl fun g fD fB=>?_;refine sF ?_
 (refine zq ?_;refine tk ?_;refine zX (hb) ?_;refine mB ?_;refine zd ?_;refine AW.gv [0,1,2,3,4,5,6,7,8,9,10,11,12,13] [14] rfl (by assumption) aI aI rfl ?_;show a_ .held _ _ _ [_,_,_,_,_,_,_,_,_,_,_,_,_,_] _ _;refine Eb ?_;refine JF ?_;refine tn ?_;refine Ds ?_;refine a_.min2 rfl rfl rfl rfl rfl ?_;refine a_.fj rfl rfl rfl ?_;refine a_.c_ 94 3 8 rfl rfl rfl rfl ?_;refine Q4 ?_;intro k_ iL;refine Q0 ?_;refine uS ?_;intro g_ b_ fe;(with_reducible apply a_.gn);(iterate 5 exact rfl);exact ag;(iterate 3 exact rfl);(with_reducible assumption);refine Q0 ?_;refine FM ?_)
 (apply n7;((exact gk.none));((exact qS));((exact Te));exact rfl)
end Go.Ab
/- The solver:a step of the proof logged;the end of a search,walked. -/
namespace Go.Ab
open Go Go.Proofs
open Nat (reduceAdd reduceSub)
set_option maxRecDepth 20000
set_option maxHeartbeats 4000000
attribute [local irreducible] gx AW a_ gb fq AR fz fk fJ fX kp lh
theorem tw (l:List Int) (hl:l.length≤1000000):Fn Tryz.prog 43 [.pv (jI l)] (.pv (jI l)):=by
 refine Fn.enter (n:=8) Tryz.func43 rfl rfl rfl rfl rfl (by decide) fun g fD fB=>?_;refine aB ?_
 (refine y_ ?_;(focus ((with_reducible apply a_.ri);(iterate 6 exact rfl);all_goals intro qq));refine th ?_;refine ko ?_;refine xv ?_;(all_goals skip);rotate_left;refine zd ?_;refine GS ?_;refine ko ?_;refine a_.PI rfl rfl rfl rfl rfl ?_;refine Q0 ?_;refine zm ?_;(with_reducible apply a_.fI);exact rfl;exact ah;(iterate 9 exact rfl);exact aa;refine Q0 ?_;refine tH ?_;(all_goals skip);rotate_left)
 ·obtain rfl:l=[]:=by simpa using qq
  (apply e6;(exact gk.one (.tmp rfl rfl));(exact Le.nil _))
 ·(apply e6;(exact gk.one (.tmp rfl rfl));(exact Le.own _ _ _ _ rfl))
theorem Fg (s:SR) (l:List Int) (hl:l.length≤1000000) (hp:s.proof.length≤1000000):og Tryz.prog 82 11 (gV s) [.ptr 0 0,.pv (jI l)] (gV {s with proof:=s.proof++ [l]}) (.gX []):=by
 have hc:=tw l hl
 simp only[gV,gW]
 refine og.enter (n:=16) Tryz.func82 rfl rfl rfl rfl rfl (by decide) rfl rfl fun g fD fB=>?_;refine sF ?_
 (refine AW.gv [0,1,2,3,4,5] [12] rfl (by assumption) aI aI rfl ?_;show a_ .held _ _ _ [_,_,_,_,_,_] _ _;refine Eb ?_;refine a_.c_ 94 6 11 rfl rfl rfl rfl ?_;refine jf ?_;refine Q4 ?_;intro k_ iL;refine Q0 ?_;refine AR.fG (i:=6) rfl aI rfl ?_;intro g_ b_ f_;refine zP (hc) ?_;refine Lv ?_;refine aB ?_;refine AR.fG (i:=8) rfl aI rfl ?_;intro g_ b_ f_;refine HH ?_;refine AR.fG (i:=9) rfl aI rfl ?_;intro g_ b_ f_;(with_reducible apply a_.fI);exact rfl;exact ah;(iterate 9 exact rfl);exact aa;refine jS ?_;refine AR.iw [10,11] aI aI aI aI ?_;intro g_ b_;show a_ .held _ _ _ [_,_] _ _;refine a_.fj rfl rfl rfl ?_;refine JR ?_;intro k_ iL;refine Q0 ?_;refine DZ ?_;intro g_ b_ fe;(with_reducible apply a_.gn);(iterate 5 exact rfl);exact ag;(iterate 3 exact rfl);(with_reducible assumption);refine Q0 ?_;refine FM ?_)
 (apply n7;((exact gk.none));((exact qS));((exact WH));exact rfl)
theorem FT (hs:Nat→Value) (ls:Nat→List Int) (k:Nat) (hl:(ls k).length≤1000000) (h0:0<(ls k).length):og Tryz.prog 43 11 [(7,some (.e8 3 (j9 hs ls)))] [.pv (.lit (hs k))] [(7,some (.e8 3 (j9 hs ls)))] (.pv (jI (ls k))):=by
 refine og.enter (n:=8) Tryz.func43 rfl rfl rfl rfl rfl (by decide) rfl rfl fun g fD fB=>?_;refine sF ?_
 (refine y_ ?_;(with_reducible apply a_.FA 7);(iterate 7 exact rfl);omega;refine aB ?_;refine zd ?_;refine GS ?_;refine zq ?_;refine a_.PI rfl rfl rfl rfl rfl ?_;refine Q0 ?_;refine zm ?_;(with_reducible apply a_.BU 7);(iterate 11 exact rfl);(simp only[List.length_nil];omega);refine aB ?_;refine tH ?_)
 (apply iT;((exact gk.one (.tmp rfl rfl)));((refine⟨.zS rfl (by first|with_reducible rfl|(rfl)),?_⟩;exact ye));((refine⟨.e8 rfl (by first|with_reducible rfl|(rfl)),?_⟩;exact trivial));exact rfl)
theorem F6 (s:SR) (hl:(s.cl s.nc).length≤1000000) (hp:s.proof.length≤1000000) (h0:0<(s.cl s.nc).length):og Tryz.prog 82 11 (gV s) [.ptr 0 0,.pv (.lit (s.hc s.nc))] (gV {s with proof:=s.proof++ [s.cl s.nc]}) (.gX []):=by
 have hc:=FT s.hc s.cl s.nc hl h0
 simp only[gV,gW]
 refine og.enter (n:=16) Tryz.func82 rfl rfl rfl rfl rfl (by decide) rfl rfl fun g fD fB=>?_;refine sF ?_
 (refine AW.gv [5] [6] rfl (by assumption) aI aI rfl ?_;show a_ .held _ _ _ [_] _ _;refine zm ?_;refine Q4 ?_;intro k_ iL;refine Q0 ?_;(refine AR.free 0 aI rfl rfl rfl (by first|exact fS.fH rfl rfl|exact fS.iu rfl rfl|exact fS.nilCheck rfl rfl) ?_);(refine AR.free 1 aI rfl rfl rfl (by first|exact fS.fH rfl rfl|exact fS.iu rfl rfl|exact fS.nilCheck rfl rfl) ?_);(refine AR.free 2 aI rfl rfl rfl (by first|exact fS.fH rfl rfl|exact fS.iu rfl rfl|exact fS.nilCheck rfl rfl) ?_);apply AR.cut [2,1,0,5,3,4,6,7,8];intro oK;apply AR.cut [2,1,0,5,3,4,6,7];intro tS;(refine AR.z7 (i:=3) (j:=6) rfl aI rfl rfl aI ?_ ?_<;>intro g_ b_ fe);refine JR ?_;(refine AR.z7 (i:=4) (j:=6) rfl aI rfl rfl aI ?_ ?_<;>intro g_ b_ fe);refine zb ?_;refine wK ?_;intro g_ b_ fe;refine zX (hc) ?_;refine mB ?_;refine Lv ?_;refine aB ?_;refine aB ?_;exact Gq;refine zX (hc) ?_;refine mB ?_;refine Lv ?_;refine aB ?_;(refine AR.zV (i:=4) (j:=8) rfl aI rfl rfl aI ?_ ?_<;>intro g_ b_ fe);refine zb ?_;refine Q4 ?_;refine aB ?_;refine AR.meet tS aI (fun g_=>fp rfl ?_ ?_ rfl);(iterate 11 refine aC ?_);exact trivial;exact Ot;refine HH ?_;refine KZ ?_;intro g_ b_ fe;refine zb ?_;refine Q4 ?_;refine aB ?_;exact xk;refine zX (hc) ?_;refine mB ?_;refine Lv ?_;refine aB ?_;(refine AR.zV (i:=3) (j:=8) rfl aI rfl rfl aI ?_ ?_<;>intro g_ b_ fe);refine JR ?_;(refine AR.zV (i:=4) (j:=8) rfl aI rfl rfl aI ?_ ?_<;>intro g_ b_ fe);refine zb ?_;refine Q4 ?_;refine aB ?_;refine AR.meet tS aI (fun g_=>fp rfl ?_ ?_ rfl);(iterate 11 refine aC ?_);exact trivial;exact Ot;refine HH ?_;refine KZ ?_;intro g_ b_ fe;refine zb ?_;refine Q4 ?_;refine aB ?_;exact NZ;refine HH ?_;refine AR.iI (i:=3) rfl aI rfl aI ?_;intro g_ b_ fe;refine JR ?_;refine KZ ?_;intro g_ b_ fe;refine zb ?_;refine Q4 ?_;refine aB ?_;exact NZ;refine G9 ?_;intro g_ b_ fe;refine HH ?_;refine aB ?_;exact NZ;refine Ja ?_;intro g_ b_ fe;(with_reducible apply a_.fI);exact rfl;exact ah;(iterate 9 exact rfl);exact aa;refine jS ?_;refine AR.iI (i:=10) rfl aI rfl aI ?_;intro g_ b_ fe;refine s6 ?_;refine DN ?_;intro g_ b_ fe;refine JR ?_;refine DZ ?_;intro g_ b_ fe;(with_reducible apply a_.gn);(iterate 5 exact rfl);exact ag;(iterate 3 exact rfl);(with_reducible assumption);refine Q0 ?_;refine FM ?_)
 (apply n7;((exact gk.none));((exact qS));((exact WH));exact rfl)
end Go.Ab
/- The solver's invariant,in plain terms:the trail. -/
namespace Go.Ab
open Go Go.Proofs
def kW (n:Nat) (L:List Int):List Int:=(List.range (n+1)).map fun v:Nat=>if (v:Int)∈L then 1 else if -(v:Int)∈L then -1 else 0
structure jG (n:Nat) (L:List Int):Prop where
 xg:∀x∈L,x≠0∧ -(n:Int)≤x∧x≤n
 nd:(L.map fa).Nodup
theorem gD (x:Int):fa (-x)=fa x:=by unfold fa;omega
theorem Ez {x y:Int}:fa x=fa y↔x=y∨x= -y:=by unfold fa;omega
theorem jm {n:Nat} {x:Int} (h:x≠0∧ -(n:Int)≤x∧x≤n):1≤fa x∧fa x≤n:=by unfold fa;omega
theorem j5 (n:Nat) (L:List Int):(kW n L).length=n+1:=by simp [kW]
theorem sA {n v:Nat} (L:List Int) (h:v≤n):(kW n L).getD v 0=if (v:Int)∈L then 1 else if -(v:Int)∈L then -1 else 0:=by
 unfold kW
 rw[c8,List.getElem?_map,List.getElem?_range aJ];rfl
theorem jG.once {n:Nat} {L:List Int} (h:jG n L) {x y:Int} (hx:x∈L) (hy:y∈L) (hv:fa x=fa y):x=y:=by
 obtain⟨i,hi,rfl⟩:=dc hx
 obtain⟨j,hj,rfl⟩:=dc hy
 have:i=j:=(du h.nd (h₀:=by simpa using hi) (h₁:=by simpa using hj)).1 (by simpa using hv)
 subst this;rfl
theorem jG.nJ {n:Nat} {L:List Int} (h:jG n L) {x:Int} (hx:x∈L): -x∉L:=fun hn=>by
 have:=h.once hx hn (gD x).symm
 have:=(h.xg x hx).1
 omega
theorem IC {n:Nat} {L:List Int} {x:Int} (hx:x≠0∧ -(n:Int)≤x∧x≤n) (h:jG n L):Tg (kW n L) x=if x∈L then 1 else if -x∈L then -1 else 0:=by
 unfold Tg
 by_cases hn:x<0
 ·rw[if_pos hn,sA L aJ,show(((-x).toNat:Nat):Int)= -x by omega,dv]
  by_cases h1:x∈L
  ·rw[if_neg (h.nJ h1),if_pos h1,if_pos h1];rfl
  ·by_cases h2: -x∈L
   ·rw[if_pos h2,if_neg h1,if_pos h2]
   ·rw[if_neg h2,if_neg h1,if_neg h1,if_neg h2];rfl
 ·rw[if_neg hn,sA L aJ,show((x.toNat:Nat):Int)=x by omega]
theorem BM {n:Nat} {L:List Int}:∀y∈kW n L,-1≤y∧y≤1:=by
 intro y hy
 unfold kW at hy
 obtain⟨v,_,rfl⟩:=bx.1 hy
 split
 ·omega
 ·split<;>omega
theorem sY:∀(n:Nat) {l:List Nat},l.Nodup→(∀x∈l,1≤x∧x≤n)→l.length≤n:=by
 intro n
 induction n with
 |zero=>intro l _ h;cases l with|nil=>simp|cons x l=>have:=h x (by simp);omega
 |succ n ih=>
  intro l hn h
  have h1:=ih (l:=l.erase (n+1)) (hn.erase _) (fun x hx=>by
   have h2:=h x (List.mem_of_mem_erase hx)
   have h3:x≠n+1:=fun e=>by subst e;exact(List.Nodup.not_mem_erase hn) hx
   omega)
  have:=List.length_erase (a:=n+1) (l:=l)
  split at this<;>omega
theorem jG.len {n:Nat} {L:List Int} (h:jG n L):L.length≤n:=by
 have:=sY n h.nd fun v hv=>by
  obtain⟨x,hx,rfl⟩:=bx.1 hv
  exact jm (h.xg x hx)
 simpa using this
theorem jG.push {n:Nat} {L:List Int} (h:jG n L) {x:Int} (hx:x≠0∧ -(n:Int)≤x∧x≤n) (h1:x∉L) (h2: -x∉L):jG n (L++ [x]) where
 xg:=fun y hy=>by
  rcases bX.1 hy with hy|hy
  ·exact h.xg y hy
  ·rw[cq.1 hy];exact hx
 nd:=by
  rw[cV,cp]
  refine⟨h.nd,by simp,fun v hv w hw=>?_⟩
  obtain⟨y,hy,rfl⟩:=bx.1 hv
  simp at hw
  subst hw
  intro e
  rcases Ez.1 e with rfl|rfl
  ·exact h1 hy
  ·exact h2 hy
theorem xG {n:Nat} {L:List Int} {x:Int} (hx:x≠0∧ -(n:Int)≤x∧x≤n) (h1:x∉L) (h2: -x∉L):(kW n L).set (fa x) (qt x)=kW n (L++ [x]):=by
 apply dw (by simp [kW])
 intro v q1 q2
 have hv:v≤n:=by simp [kW] at q1;omega
 rw[dx]
 simp only[kW,dj,dy,bX,cq]
 unfold qt
 by_cases e:fa x=v
 ·rw[if_pos e]
  unfold fa at e
  by_cases hn:x<0
  ·have e1:x= -(v:Int):=by omega
   rw[if_pos hn,if_neg (fun h=>h.elim (fun h=>h2 (by rw[e1,dv];exact h)) (fun h=>by omega)),if_pos (.inr e1.symm)]
  ·have e1:x=(v:Int):=by omega
   rw[if_neg hn,if_pos (.inr e1.symm)]
 ·rw[if_neg e]
  unfold fa at e
  have e1:¬(v:Int)=x:=by omega
  have e2:¬ -(v:Int)=x:=by omega
  simp only[e1,e2,or_false]
theorem Ff {l:List Int} {v:List Int} {j:Nat} (hj:j<(zeroV v l).length):(zeroV v l)[j]=if j∈l.map fa then 0 else v[j]'(by rw[qp] at hj;exact hj):=by
 unfold zeroV at hj ⊢
 induction l generalizing v with
 |nil=>simp
 |cons x l ih=>
  simp only[ct] at hj ⊢
  rw[ih hj,dx]
  simp only[bB,bw]
  by_cases h1:j∈l.map fa
  ·rw[if_pos h1,if_pos (.inr h1)]
  ·rw[if_neg h1]
   by_cases h2:fa x=j
   ·rw[if_pos h2,if_pos (.inl h2.symm)]
   ·rw[if_neg h2,if_neg (fun h=>h.elim (fun h=>h2 h.symm) h1)]
theorem E8 {n:Nat} {L:List Int} (h:jG n L) (m:Nat):zeroV (kW n L) (L.drop m)=kW n (L.take m):=by
 apply dw (by rw[qp];simp [kW])
 intro v q1 q2
 have hv:v≤n:=by simp [kW] at q2;omega
 rw[Ff q1]
 simp only[kW,dj,dy]
 have Pw:∀y,y∈L↔y∈L.take m∨y∈L.drop m:=fun y=>by conv=>lhs;rw[← dz m L,bX]
 have yz:∀{y z},y∈L.take m→z∈L.drop m→fa y≠fa z:=fun {y z} hy hz e=>by
  have jl:=h.nd
  rw[← dz m L,cV,cp] at jl
  exact jl.2.2 _ (dA hy) _ (dA hz) e
 have Cf:fa (v:Int)=v:=by unfold fa;omega
 have x5:fa (-(v:Int))=v:=by unfold fa;omega
 by_cases h1:v∈(L.drop m).map fa
 ·rw[if_pos h1]
  obtain⟨z,hz,e⟩:=bx.1 h1
  rw[if_neg (fun hh=>yz hh hz (by rw[e,Cf])),if_neg (fun hh=>yz hh hz (by rw[e,x5]))]
 ·rw[if_neg h1]
  have g1:(v:Int)∉L.drop m:=fun hh=>h1 (bx.2 ⟨_,hh,Cf⟩)
  have g2: -(v:Int)∉L.drop m:=fun hh=>h1 (bx.2 ⟨_,hh,x5⟩)
  simp only[Pw,g1,g2,or_false]
theorem jG.take {n:Nat} {L:List Int} (h:jG n L) (m:Nat):jG n (L.take m):=⟨fun x hx=>h.xg x (cT hx),by rw[cW];exact h.nd.sublist (List.take_sublist _ _)⟩
end Go.Ab
/- The solver's invariant,in plain terms:clauses,watches,levels,reasons. -/
namespace Go.Ab
open Go Go.Proofs
abbrev Lit (n:Nat) (x:Int):Prop:=x≠0∧ -(n:Int)≤x∧x≤n
abbrev c0 (c:List Int):Int:=c.getD 0 0
abbrev c1 (c:List Int):Int:=c.getD 1 0
def e_ (s:SR) (x:Int):Int:=s.level.getD (fa x) 0
structure fR (n:Nat) (s:SR):Prop where
 hn:n≤20000
 ix:jG n (s.ll 0)
 val:s.value=kW n (s.ll 0)
 lvl:s.level.length=n+1
 od:s.reason.length=n+1
 hd:0≤s.head∧s.head≤((s.ll 0).length:Int)
 nD:∀m∈s.marks,0≤m∧m≤s.head
 ml:∀i (h:i<(s.ll 0).length),e_ s (s.ll 0)[i]=(s.marks.countP fun m=>decide (m≤(i:Int)):Nat)
 cls:∀j,j<s.nc→2≤(s.cl j).length∧(s.cl j).Nodup∧∀x∈s.cl j,Lit n x
 fresh:∀j,s.nc≤j→s.cl j=[]∧s.hc j=.slice none 0 0
 nc:s.nc≤100000
 nw:s.nw=2*n+2
 wt:∀x,Lit n x→∀e∈s.wl (eQ x).toNat,∃j:Nat,j<s.nc∧e=(j:Int)∧(c0 (s.cl j)=x∨c1 (s.cl j)=x)
 qL:∀k,(s.wl k).Nodup
 qH:∀j,j<s.nc→(j:Int)∈s.wl (eQ (c0 (s.cl j))).toNat∧(j:Int)∈s.wl (eQ (c1 (s.cl j))).toNat
 two:∀j,j<s.nc→∀w w',(w=c0 (s.cl j)∧w'=c1 (s.cl j))∨(w=c1 (s.cl j)∧w'=c0 (s.cl j))→ -w∈(s.ll 0).take s.head.toNat→w'∈s.ll 0∧e_ s w'≤e_ s w
 pc:s.marks.Pairwise (·≤·)
 pY:∀i (h:i<(s.ll 0).length),(s.reason.getD (fa (s.ll 0)[i]) 0= -1∧((i:Int)∈s.marks∨e_ s (s.ll 0)[i]=0))∨∃j:Nat,j<s.nc∧s.reason.getD (fa (s.ll 0)[i]) 0=(j:Int)∧(s.ll 0)[i]∈s.cl j∧∀y∈s.cl j,y≠(s.ll 0)[i]→ -y∈(s.ll 0).take i
theorem gU {n:Nat} {x y:Int} (hx:Lit n x) (hy:Lit n y) (h:(eQ x).toNat=(eQ y).toNat):x=y:=by
 unfold eQ at h;split at h<;>split at h<;>omega
theorem hY {n:Nat} {x:Int} (hx:Lit n x):0≤eQ x∧(eQ x).toNat<2*n+2:=by
 unfold eQ;split<;>omega
structure lk (c d:List Int):Prop where
 len:d.length=c.length
 nd:c.Nodup→d.Nodup
 mem:∀x,x∈d↔x∈c
theorem jR {c:List Int} (h:2≤c.length):c0 c∈c∧c1 c∈c:=by
 constructor
 ·rw[show c0 c=c[0] from fy aJ];exact cZ _
 ·rw[show c1 c=c[1] from fy aJ];exact cZ _
theorem swap_perm {c:List Int} {i k:Nat} (hi:i<c.length) (hk:k<c.length):((c.set i c[k]).set k c[i]).Perm c:=by
 by_cases e:i=k
 ·subst e;simp
 ·exact List.set_set_perm hi hk
theorem oH {c:List Int} {i k:Nat} (hi:i<c.length) (hk:k<c.length):lk c ((c.set i c[k]).set k c[i]):=
 ⟨by simp,fun h=>(swap_perm hi hk).nodup_iff.2 h,fun x=>(swap_perm hi hk).mem_iff⟩
theorem fR.swap {n:Nat} {s:SR} (h:fR n s) {j:Nat} (hj:j<s.nc) {d:List Int} (hp:lk (s.cl j) d) (h0:c0 d=c1 (s.cl j)) (h1:c1 d=c0 (s.cl j)):fR n {s with cl:=eZ s.cl j d} where
 hn:=h.hn
 ix:=h.ix
 val:=h.val
 lvl:=h.lvl
 od:=h.od
 hd:=h.hd
 nD:=h.nD
 pc:=h.pc
 ml:=h.ml
 cls:=fun k hk=>by
  show 2≤(eZ s.cl j d k).length∧(eZ s.cl j d k).Nodup∧∀x∈eZ s.cl j d k,Lit n x
  by_cases e:k=j
  ·subst e
   rw[eW]
   obtain⟨q1,q2,q3⟩:=h.cls k hk
   exact⟨by rw[hp.len];exact q1,hp.nd q2,fun x hx=>q3 x ((hp.mem x).1 hx)⟩
  ·rw[ft _ _ e];exact h.cls k hk
 fresh:=fun k hk=>by
  have hk:s.nc≤k:=hk
  have:=h.fresh k hk
  exact⟨by show eZ s.cl j d k=[];rw[ft _ _ aJ];exact this.1,this.2⟩
 nc:=h.nc
 nw:=h.nw
 wt:=fun x hx e he=>by
  obtain⟨k,hk,rfl,hw⟩:=h.wt x hx e he
  refine⟨k,hk,rfl,?_⟩
  show c0 (eZ s.cl j d k)=x∨c1 (eZ s.cl j d k)=x
  by_cases e:k=j
  ·subst e;rw[eW,h0,h1];exact hw.symm
  ·rw[ft _ _ e];exact hw
 qL:=h.qL
 qH:=fun k hk=>by
  show(k:Int)∈s.wl (eQ (c0 (eZ s.cl j d k))).toNat∧(k:Int)∈s.wl (eQ (c1 (eZ s.cl j d k))).toNat
  by_cases e:k=j
  ·subst e;rw[eW,h0,h1];exact(h.qH k hk).symm
  ·rw[ft _ _ e];exact h.qH k hk
 two:=fun k hk w w' hw=>by
  have hw:(w=c0 (eZ s.cl j d k)∧w'=c1 (eZ s.cl j d k))∨(w=c1 (eZ s.cl j d k)∧w'=c0 (eZ s.cl j d k)):=hw
  refine h.two k hk w w' ?_
  by_cases e:k=j
  ·subst e;rw[eW,h0,h1] at hw;exact hw.symm
  ·rw[ft _ _ e] at hw;exact hw
 pY:=fun i hi=>by
  rcases h.pY i hi with q|⟨k,q1,q2,q3,q4⟩
  ·exact .inl q
  ·refine .inr ⟨k,q1,q2,?_,?_⟩
   ·show(s.ll 0)[i]∈eZ s.cl j d k
    by_cases e:k=j
    ·subst e;rw[eW];exact(hp.mem _).2 q3
    ·rw[ft _ _ e];exact q3
   ·show ∀y∈eZ s.cl j d k,y≠(s.ll 0)[i]→ -y∈(s.ll 0).take i
    by_cases e:k=j
    ·subst e;rw[eW];exact fun y hy=>q4 y ((hp.mem y).1 hy)
    ·rw[ft _ _ e];exact q4
theorem fR.move {n:Nat} {s:SR} (h:fR n s) {j:Nat} (hj:j<s.nc) {d:List Int} {g y:Int} (hp:lk (s.cl j) d) (hg:c1 (s.cl j)=g) (YE: -g∈s.ll 0) (h0:c0 d=c0 (s.cl j)) (h1:c1 d=y) (GJ:y≠g) (OT:y≠c0 (s.cl j)) (T1: -y∉s.ll 0) {E E':List Int} (hE:s.wl (eQ g).toNat=E) (YH:∀e,e∈E'↔e∈E∧e≠(j:Int)) (jl:E'.Nodup) (hv:Nat→Value):
  fR n {s with cl:=eZ s.cl j d,hw:=hv,wl:=eZ (eZ s.wl (eQ y).toNat (s.wl (eQ y).toNat++ [(j:Int)])) (eQ g).toNat E'}:=by
 obtain⟨q1,q2,q3⟩:=h.cls j hj
 obtain⟨m0,m1⟩:=jR q1
 have U5:y∈s.cl j:=by
  have:=(jR (c:=d) (by rw[hp.len];exact q1)).2
  rw[h1] at this;exact(hp.mem y).1 this
 have wY:Lit n y:=q3 y U5
 have F2:Lit n g:=by rw[← hg];exact q3 _ m1
 have fW:(eQ y).toNat≠(eQ g).toNat:=fun e=>GJ (gU wY F2 e)
 have Zp:Lit n (c0 (s.cl j)):=q3 _ m0
 have Zl:c0 (s.cl j)≠g:=fun e=>by
  rw[show c0 (s.cl j)=(s.cl j)[0] from fy aJ] at e
  rw[show c1 (s.cl j)=(s.cl j)[1] from fy aJ,← e] at hg
  have:=(du q2 (h₀:=by omega) (h₁:=by omega)).1 hg
  omega
 -- j is no watch of y yet
 have WX:(j:Int)∉s.wl (eQ y).toNat:=fun hm=>by
  obtain⟨k,hk,e,hw⟩:=h.wt y wY _ hm
  have:k=j:=by omega
  subst this
  rcases hw with hw|hw
  ·exact OT hw.symm
  ·exact GJ (hw.symm.trans hg)
 have Aw:∀x,Lit n x→∀e,e∈eZ (eZ s.wl (eQ y).toNat (s.wl (eQ y).toNat++ [(j:Int)])) (eQ g).toNat E' (eQ x).toNat↔if x=g then (e∈s.wl (eQ g).toNat∧e≠(j:Int)) else if x=y then (e∈s.wl (eQ y).toNat∨e=(j:Int)) else e∈s.wl (eQ x).toNat:=by
  intro x hx e
  by_cases e1:x=g
  ·subst e1;rw[eW,if_pos rfl,YH e,hE]
  ·rw[ft _ _ (fun q=>e1 (gU hx F2 q)),if_neg e1]
   by_cases e2:x=y
   ·subst e2;rw[eW,if_pos rfl,bX,cq]
   ·rw[ft _ _ (fun q=>e2 (gU hx wY q)),if_neg e2]
 exact
  {hn:=h.hn,ix:=h.ix,val:=h.val,lvl:=h.lvl,od:=h.od,hd:=h.hd,nD:=h.nD,pc:=h.pc,ml:=h.ml
   cls:=fun k hk=>by
    show 2≤(eZ s.cl j d k).length∧(eZ s.cl j d k).Nodup∧∀x∈eZ s.cl j d k,Lit n x
    by_cases e:k=j
    ·subst e
     rw[eW]
     exact⟨by rw[hp.len];exact q1,hp.nd q2,fun x hx=>q3 x ((hp.mem x).1 hx)⟩
    ·rw[ft _ _ e];exact h.cls k hk
   fresh:=fun k hk=>by
    have hk:s.nc≤k:=hk
    have:=h.fresh k hk
    exact⟨by show eZ s.cl j d k=[];rw[ft _ _ aJ];exact this.1,this.2⟩
   nc:=h.nc,nw:=h.nw
   wt:=fun x hx e he=>by
    replace he:=(Aw x hx e).1 he
    show ∃k:Nat,k<s.nc∧e=(k:Int)∧(c0 (eZ s.cl j d k)=x∨c1 (eZ s.cl j d k)=x)
    by_cases e1:x=g
    ·rw[if_pos e1] at he
     subst e1
     obtain⟨k,hk,rfl,hw⟩:=h.wt x hx e he.1
     exact⟨k,hk,rfl,by rw[ft _ _ (by have:=he.2;omega)];exact hw⟩
    ·rw[if_neg e1] at he
     by_cases e2:x=y
     ·rw[if_pos e2] at he
      subst e2
      rcases he with he|rfl
      ·obtain⟨k,hk,rfl,hw⟩:=h.wt x hx e he
       have YQ:k≠j:=by rintro rfl;exact WX he
       exact⟨k,hk,rfl,by rw[ft _ _ YQ];exact hw⟩
      ·exact⟨j,hj,rfl,by rw[eW];exact .inr h1⟩
     ·rw[if_neg e2] at he
      obtain⟨k,hk,rfl,hw⟩:=h.wt x hx e he
      refine⟨k,hk,rfl,?_⟩
      by_cases e3:k=j
      ·subst e3
       rw[eW,h0,h1]
       rcases hw with hw|hw
       ·exact .inl hw
       ·exact absurd (hw.symm.trans hg) e1
      ·rw[ft _ _ e3];exact hw
   qL:=fun k=>by
    show(eZ (eZ s.wl (eQ y).toNat (s.wl (eQ y).toNat++ [(j:Int)])) (eQ g).toNat E' k).Nodup
    by_cases e1:k=(eQ g).toNat
    ·rw[e1,eW];exact jl
    ·rw[ft _ _ e1]
     by_cases e2:k=(eQ y).toNat
     ·rw[e2,eW,cp]
      refine⟨h.qL _,by simp,fun a ha b hb=>?_⟩
      rw[cq.1 hb]
      rintro rfl
      exact WX ha
     ·rw[ft _ _ e2];exact h.qL k
   qH:=fun k hk=>by
    show(k:Int)∈eZ (eZ s.wl (eQ y).toNat (s.wl (eQ y).toNat++ [(j:Int)])) (eQ g).toNat E' (eQ (c0 (eZ s.cl j d k))).toNat∧(k:Int)∈eZ (eZ s.wl (eQ y).toNat (s.wl (eQ y).toNat++ [(j:Int)])) (eQ g).toNat E' (eQ (c1 (eZ s.cl j d k))).toNat
    have hk:k<s.nc:=hk
    by_cases e3:k=j
    ·subst e3
     rw[eW,h0,h1,Aw _ Zp,Aw _ wY,if_neg Zl,if_neg GJ,if_neg (Ne.symm OT),if_pos rfl]
     exact⟨(h.qH k hk).1,.inr rfl⟩
    ·rw[ft _ _ e3]
     obtain⟨p1,p2,p3⟩:=h.cls k hk
     obtain⟨n0,n1⟩:=jR p1
     have gen:∀x,Lit n x→(k:Int)∈s.wl (eQ x).toNat→(k:Int)∈eZ (eZ s.wl (eQ y).toNat (s.wl (eQ y).toNat++ [(j:Int)])) (eQ g).toNat E' (eQ x).toNat:=by
      intro x hx hm
      rw[Aw x hx]
      by_cases e1:x=g
      ·rw[if_pos e1];subst e1;exact⟨hm,by omega⟩
      ·rw[if_neg e1]
       by_cases e2:x=y
       ·rw[if_pos e2];subst e2;exact .inl hm
       ·rw[if_neg e2];exact hm
     exact⟨gen _ (p3 _ n0) (h.qH k hk).1,gen _ (p3 _ n1) (h.qH k hk).2⟩
   two:=fun k hk w w' hw iJ=>by
    have hw:(w=c0 (eZ s.cl j d k)∧w'=c1 (eZ s.cl j d k))∨(w=c1 (eZ s.cl j d k)∧w'=c0 (eZ s.cl j d k)):=hw
    have iJ: -w∈(s.ll 0).take s.head.toNat:=iJ
    by_cases e:k=j
    ·subst e
     rw[eW,h0,h1] at hw
     rcases hw with ⟨rfl,rfl⟩|⟨rfl,rfl⟩
     ·have:=(h.two k hj _ _ (.inl ⟨rfl,rfl⟩) iJ).1
      rw[hg] at this
      exact absurd YE (h.ix.nJ this)
     ·exact absurd (cT iJ) T1
    ·rw[ft _ _ e] at hw;exact h.two k hk w w' hw iJ
   pY:=fun i hi=>by
    rcases h.pY i hi with q|⟨k,q1,q2,q3,q4⟩
    ·exact .inl q
    ·refine .inr ⟨k,q1,q2,?_,?_⟩
     ·show(s.ll 0)[i]∈eZ s.cl j d k
      by_cases e:k=j
      ·subst e;rw[eW];exact(hp.mem _).2 q3
      ·rw[ft _ _ e];exact q3
     ·show ∀y∈eZ s.cl j d k,y≠(s.ll 0)[i]→ -y∈(s.ll 0).take i
      by_cases e:k=j
      ·subst e;rw[eW];exact fun y hy=>q4 y ((hp.mem y).1 hy)
      ·rw[ft _ _ e];exact q4}
end Go.Ab
